/- Parts TsY TsZ TsA of the proof, joined. -/
import Derived.Test.YthkoaecafmhlcaaGreatJ08
import Derived.Test.YthkoaecafmhlcaaGreatTsR
import Derived.Test.YthkoaecafmhlcaaGreatJ02
import Derived.Deep.RegionHeld3
import Derived.Deep.DeepCutAuto
/- Package codec: Put (integers with their number ahead). -/
namespace Go.Proofs.YthkoaecafmhlcaaGreat
open Go.RowKit
def Sml (l : List Int) : Prop := ∀ x, x ∈ l → 0 ≤ x ∧ x ≤ 2000000000000000000
def encN (l : List Int) : List Int := putI l.length ++ putL l
theorem putL_len : ∀ (l : List Int), Sml l → (putL l).length ≤ 10 * l.length
 | [], _ => by simp [putL]
 | x :: l, h => by
  have h1 := putL_len l (fun y hy => h y (by simp [hy]))
  have h2 := putI_len (h x (by simp))
  have e : putL (x :: l) = putI x ++ putL l := by unfold putL; rw [List.flatMap_cons]
  rw [e, List.length_append, List.length_cons]
  omega
theorem putL_take (l : List Int) {k : Nat} (hk : k < l.length) : putL (l.take (k + 1)) = putL (l.take k) ++ putI (l.getD k 0) := by
 rw [List.take_succ_eq_append_getElem hk, getD_lt0 hk]
 unfold putL
 rw [List.flatMap_append]
 simp
set_option maxHeartbeats 1000000 in
set_option maxRecDepth 100000 in
set_option maxHeartbeats 400000 in
theorem Put_codec (v : Value) (l : List Int) (w : World) (h : IsRow w v l) (hl : l.length ≤ 1000) (hs : Sml l) :
  Calls Tryz.prog 54 #[v] w fun e w' => (∃ ov, e = .returned (.tuple #[ov, .int .i64 0]) ∧ OwnBy w' w.heap.size ov (encN l)) ∧ Below w.heap.size w w' := by
 obtain ⟨a1, cap1, rfl, -, -, -⟩ := id h
 have HI := hide (fun (V : World) (hV : Below w.heap.size w V) => h.below (Nat.le_refl _) hV)
 have hp := put_any (.slice none 0 0) [] (l.length : Int) w w.heap.size (Owns.nil _ _) (Nat.le_refl _) (Nat.zero_le _) (by omega)
 have HP := hide hp
 clear hp h
 go_enter Tryz.func54, Tryz.ntmps54
 go_wp2_with (go_at_call 91; (with_reducible refine HP.out.mono ?_); rintro e w1 ⟨ov1, rfl, o1, b1⟩)
 have HS := hide hs
 clear hs
 go_loopw [15, 4] (fun s15 s4 wx => ∃ (k : Nat), k ≤ l.length ∧ s15 = .int .i64 k ∧ Hid (OwnBy wx w.heap.size s4 (putI l.length ++ putL (l.take k))) ∧ Below w.heap.size w wx) (fun s15 _ _ => l.length - (intOf s15).toNat)
 case atStart => exact ⟨0, Nat.zero_le _, rfl, hide (by rw [List.nil_append] at o1; simpa [putL] using o1), b1⟩
 case round =>
  clear o1 b1 HP
  obtain ⟨k, hk, rfl, HO, hB⟩ := hrel
  by_cases hlt : k < l.length
  ·obtain ⟨b, off, cap', hb', -, -, hlt0, -, xs⟩ := (HI.out wr hB).at0 (show 0 < l.length by omega)
   cases hb'
   have x0 := xs k hlt
   clear xs
   have hx : iAt l k ∈ l := iAt_mem hlt
   have hsx := HS.out _ hx
   have HT := hide (putL_take l hlt)
   have hzB := hB.size
   have hlen : (putI l.length ++ putL (l.take k)).length ≤ 1000000 := by
    have h1 := putL_len (l.take k) (fun y hy => HS.out y (List.mem_of_mem_take hy))
    have h2 := putI_len (n := (l.length : Int)) (by omega)
    have h3 : (l.take k).length ≤ l.length := by rw [List.length_take]; omega
    rw [List.length_append]; omega
   have HP := hide (put_any u4 _ (iAt l k) wr w.heap.size HO.out hzB hlen hsx)
   change Hid (_ = putL (l.take k) ++ putI (iAt l k)) at HT
   have I1 : (0 : Int) ≤ (k : Int) := by omega
   have I2 : (k : Int) < (l.length : Int) := by omega
   clear hlen
   go_wp2_with (go_at_call 91; (with_reducible refine HP.out.mono ?_); rintro e w2 ⟨ov2, rfl, o2, b2⟩; have O2 := hide o2; clear o2)
   go_roundw
   case rel => exact ⟨k + 1, by omega, by go_num, hide (by rw [HT.out, ← List.append_assoc]; exact O2.out), hB.trans b2⟩
   case measure => simp [intOf]; omega
  ·obtain rfl : k = l.length := by omega
   go_wp2_with fail
   refine bodyPost_ret (v := .tuple #[u4, .int .i64 0]) (by simp [results, Tryz.results54, go_sem]) rfl ⟨⟨_, rfl, by have := HO.out; rwa [List.take_length] at this⟩, hB⟩
end Go.Proofs.YthkoaecafmhlcaaGreat
/- Package codec: sum (the bytes of a digest). -/
namespace Go.Proofs.YthkoaecafmhlcaaGreat
open Go.RowKit
def shr8 : Nat → Int → Int
 | 0, d => d
 | k + 1, d => shr8 k d / 256
def sumV (d : Int) : Nat → List Value
 | 0 => [.int .u8 0, .int .u8 0, .int .u8 0, .int .u8 0, .int .u8 0, .int .u8 0, .int .u8 0, .int .u8 0]
 | k + 1 => (sumV d k).set (7 - k) (.int .u8 (shr8 k d % 256))
theorem sumV_len (d : Int) : ∀ k, (sumV d k).length = 8
 | 0 => rfl
 | k + 1 => by unfold sumV; rw [List.length_set]; exact sumV_len d k
def sum8 (l : List Int) : List Int := let d := fnv 14695981039346656037 l; [shr8 7 d % 256, shr8 6 d % 256, shr8 5 d % 256, shr8 4 d % 256, shr8 3 d % 256, shr8 2 d % 256, shr8 1 d % 256, shr8 0 d % 256]
theorem sumV_end (l : List Int) : sumV (fnv 14695981039346656037 l) 8 = (sum8 l).map (Value.int .u8) := rfl
theorem fstep_bd (h x : Int) : 0 ≤ fstep h x ∧ fstep h x < 18446744073709551616 := by unfold fstep; rw [wrap_u64_mod]; omega
theorem fnv_bd : ∀ (l : List Int) (h : Int), (0 ≤ h ∧ h < 18446744073709551616) → 0 ≤ fnv h l ∧ fnv h l < 18446744073709551616
 | [], _, h => h
 | x :: l, h, _ => fnv_bd l _ (fstep_bd h x)
theorem shr8_bd (d : Int) (h : 0 ≤ d ∧ d < 18446744073709551616) : ∀ k, 0 ≤ shr8 k d ∧ shr8 k d < 18446744073709551616
 | 0 => h
 | k + 1 => by have := shr8_bd d h k; unfold shr8; omega
set_option maxHeartbeats 1000000 in
set_option maxRecDepth 100000 in
set_option maxHeartbeats 400000 in
theorem sum_any (v : Value) (l : List Int) (w : World) (h : BRow w v l) (hl : l.length ≤ 1000000) (hb : ∀ x, x ∈ l → 0 ≤ x ∧ x ≤ 255) :
  Calls Tryz.prog 55 #[v] w fun e w' => e = .returned (.agg ((sum8 l).map (Value.int .u8)).toArray) ∧ Below w.heap.size w w' := by
 obtain ⟨a1, cap1, rfl, -⟩ := h.len
 have HI := hide (fun (V : World) (hV : Below w.heap.size w V) => Sum_any _ _ V (h.below (Nat.le_refl _) hV) hl hb)
 have hd := fnv_bd l 14695981039346656037 (by omega)
 have HE := hide (sumV_end l)
 generalize sum8 l = sm at *
 generalize hD : fnv 14695981039346656037 l = d at *
 clear hD
 go_enter Tryz.func55, Tryz.ntmps55
 go_wp2_with (go_at_call 92; (with_reducible refine (HI.out _ (by ((with_reducible repeat' first | exact .refl _ _ | refine .alloc ?_ ?_ _ | refine .setCell ?_ ?_ _ | refine .drew ?_ | refine below_drewN ?_ _) <;> first | omega | simp <;> omega))).mono ?_); rintro e w1 ⟨rfl, rfl⟩)
 clear h HI
 obtain ⟨W, hW⟩ : ∃ V, V = (w.alloc (.cells #[.int .u8 0, .int .u8 0, .int .u8 0, .int .u8 0, .int .u8 0, .int .u8 0, .int .u8 0, .int .u8 0] 118)).alloc (.cells #[.int .u8 0, .int .u8 0, .int .u8 0, .int .u8 0, .int .u8 0, .int .u8 0, .int .u8 0, .int .u8 0] 118) := ⟨_, rfl⟩
 have hA : BxC W w.heap.size (sumV d 0) := by rw [hW]; exact (BxC.made w _ _).alloc _
 have hB : BxC W (w.heap.size + 1) (sumV d 0) := by
  have h_ := BxC.made (w.alloc (.cells #[.int .u8 0, .int .u8 0, .int .u8 0, .int .u8 0, .int .u8 0, .int .u8 0, .int .u8 0, .int .u8 0] 118)) (sumV d 0) 118
  rw [World.size_alloc] at h_
  rw [hW]; exact h_
 have hb0 : Below w.heap.size w W := by rw [hW]; ((with_reducible repeat' first | exact .refl _ _ | refine .alloc ?_ ?_ _ | refine .setCell ?_ ?_ _ | refine .drew ?_ | refine below_drewN ?_ _) <;> first | omega | simp <;> omega)
 rw [← hW]
 clear hW
 have hbd := fun k => shr8_bd d hd k
 have HBD := hide hbd
 clear hbd
 go_loopw [4, 5] (fun s4 s5 wx => ∃ (k : Nat), k ≤ 8 ∧ s4 = .int .i64 (7 - (k : Int)) ∧ s5 = .int .u64 (shr8 k d) ∧ Hid (BxC wx w.heap.size (sumV d 0) ∧ BxC wx (w.heap.size + 1) (sumV d k)) ∧ Below w.heap.size w wx) (fun s4 _ _ => (intOf s4 + 1).toNat)
 case atStart => exact ⟨0, by omega, rfl, rfl, hide ⟨hA, hB⟩, hb0⟩
 case round =>
  clear hA hB hb0
  obtain ⟨k, hk, rfl, rfl, HB, hb0⟩ := hrel
  by_cases hlt : k < 8
  ·have hx := HBD.out k
   obtain ⟨hA, hB⟩ := HB.out
   have hlen := sumV_len d k
   have hfz := hB.2.1 (7 - k)
   have hzb := hB.2.2
   obtain ⟨y, hy⟩ : ∃ y, (sumV d k)[7 - k]? = some y := ⟨_, List.getElem?_eq_getElem (by omega)⟩
   have hc := hB.1 _ _ hy
   obtain ⟨q, hq⟩ : ∃ q : Nat, q = 7 - k := ⟨_, rfl⟩
   have e7 : (7 : Int) - (k : Int) = (q : Int) := by omega
   have HBn := hide (And.intro (hA.setNe (p := ⟨w.heap.size + 1, q, none⟩) (by simp) (.int .u8 (shr8 k d % 256))) (hB.set q (.int .u8 (shr8 k d % 256)) (by omega)))
   have HQ := hide hq
   rw [← hq] at hfz hc
   have hq8 : q < 8 := by omega
   have hbn : Below w.heap.size w (wr.setCell ⟨w.heap.size + 1, q, none⟩ (.int .u8 (shr8 k d % 256))) := Below.setCell hb0 (Nat.le_succ _) _
   rw [e7]
   have HK := hide (show k ≤ 7 by omega)
   have HE7 := hide e7
   have hs1 : shr8 (k + 1) d = shr8 k d / 256 := rfl
   have HS := hide hs1
   have HV := hide (show sumV d (k + 1) = (sumV d k).set (7 - k) (.int .u8 (shr8 k d % 256)) from rfl)
   generalize shr8 k d = f at *
   clear hA hB hlen hy hq e7 hk hlt hs1
   go_wp2_with fail
   go_roundw
   case rel => exact ⟨k + 1, by have := HK.out; omega, by have := HE7.out; rw [← this]; congr 1; omega, by rw [HS.out], hide (by rw [HV.out, ← HQ.out]; exact HBn.out), hbn⟩
   case measure => simp [intOf] <;> omega
  ·obtain rfl : k = 8 := by omega
   obtain ⟨hA, hB⟩ := HB.out
   obtain ⟨x0, x1, x2, x3, x4, x5, x6, x7, hv⟩ : ∃ x0 x1 x2 x3 x4 x5 x6 x7 : Int, sumV d 8 = [.int .u8 x0, .int .u8 x1, .int .u8 x2, .int .u8 x3, .int .u8 x4, .int .u8 x5, .int .u8 x6, .int .u8 x7] := ⟨_, _, _, _, _, _, _, _, rfl⟩
   rw [hv] at hB HE
   clear HB hk hlt hv
   generalize shr8 8 d = f at *
   unfold sumV at hA
   have HAs := hide hA
   have chA_0 := hA.1 0 _ rfl; have chA_1 := hA.1 1 _ rfl; have chA_2 := hA.1 2 _ rfl; have chA_3 := hA.1 3 _ rfl; have chA_4 := hA.1 4 _ rfl; have chA_5 := hA.1 5 _ rfl; have chA_6 := hA.1 6 _ rfl; have chA_7 := hA.1 7 _ rfl; have fhA := hA.2.1; have zhA := hA.2.2
   have chB_0 := hB.1 0 _ rfl; have chB_1 := hB.1 1 _ rfl; have chB_2 := hB.1 2 _ rfl; have chB_3 := hB.1 3 _ rfl; have chB_4 := hB.1 4 _ rfl; have chB_5 := hB.1 5 _ rfl; have chB_6 := hB.1 6 _ rfl; have chB_7 := hB.1 7 _ rfl; have fhB := hB.2.1; have zhB := hB.2.2
   clear hA hB HBD hd
   go_wp2_with fail
   have hF := ((((((((HAs.out.set 0 (.int .u8 x0) (by simp)).set 1 (.int .u8 x1) (by simp)).set 2 (.int .u8 x2) (by simp)).set 3 (.int .u8 x3) (by simp)).set 4 (.int .u8 x4) (by simp)).set 5 (.int .u8 x5) (by simp)).set 6 (.int .u8 x6) (by simp)).set 7 (.int .u8 x7) (by simp))
   have hbf : Below w.heap.size w _ := Below.setCell (Below.setCell (Below.setCell (Below.setCell (Below.setCell (Below.setCell (Below.setCell (Below.setCell hb0 (p := ⟨w.heap.size, 0, none⟩) (Nat.le_refl _) (.int .u8 x0)) (p := ⟨w.heap.size, 1, none⟩) (Nat.le_refl _) (.int .u8 x1)) (p := ⟨w.heap.size, 2, none⟩) (Nat.le_refl _) (.int .u8 x2)) (p := ⟨w.heap.size, 3, none⟩) (Nat.le_refl _) (.int .u8 x3)) (p := ⟨w.heap.size, 4, none⟩) (Nat.le_refl _) (.int .u8 x4)) (p := ⟨w.heap.size, 5, none⟩) (Nat.le_refl _) (.int .u8 x5)) (p := ⟨w.heap.size, 6, none⟩) (Nat.le_refl _) (.int .u8 x6)) (p := ⟨w.heap.size, 7, none⟩) (Nat.le_refl _) (.int .u8 x7)
   dsimp only [List.set] at hF
   generalize World.setCell _ ⟨w.heap.size, 7, none⟩ _ = Z at *
   have chF_0 := hF.1 0 _ rfl; have chF_1 := hF.1 1 _ rfl; have chF_2 := hF.1 2 _ rfl; have chF_3 := hF.1 3 _ rfl; have chF_4 := hF.1 4 _ rfl; have chF_5 := hF.1 5 _ rfl; have chF_6 := hF.1 6 _ rfl; have chF_7 := hF.1 7 _ rfl; have fhF := hF.2.1; have zhF := hF.2.2
   refine bodyPost_ret (v := .agg #[.int .u8 x0, .int .u8 x1, .int .u8 x2, .int .u8 x3, .int .u8 x4, .int .u8 x5, .int .u8 x6, .int .u8 x7]) (by simp [results, Tryz.results55, go_sem, chF_0, chF_1, chF_2, chF_3, chF_4, chF_5, chF_6, chF_7]) rfl ⟨by rw [← HE.out], hbf⟩
end Go.Proofs.YthkoaecafmhlcaaGreat
/- Packages versions, commit: the small functions, the order of versions. -/
namespace Go.Proofs.YthkoaecafmhlcaaGreat
open Go.RowKit
def tsB (lo n hi : Int) : Bool := decide (lo ≤ n ∧ n ≤ hi)
theorem tsB_true {lo n hi : Int} (h : lo ≤ n ∧ n ≤ hi) : tsB lo n hi = true := decide_eq_true h
theorem tsB_iff {lo n hi : Int} : tsB lo n hi = true ↔ lo ≤ n ∧ n ≤ hi := by unfold tsB; exact decide_eq_true_iff
theorem tsB_false {lo n hi : Int} : tsB lo n hi = false ↔ ¬ (lo ≤ n ∧ n ≤ hi) := by unfold tsB; exact decide_eq_false_iff_not
attribute [local go_sem ↓] run_max_mx run_min_mn

set_option maxRecDepth 100000 in
set_option maxHeartbeats 400000 in
theorem btw_any (n lo hi : Int) (w : World) : Calls Tryz.prog 83 #[.int .i64 n, .int .i64 lo, .int .i64 hi] w fun e w' => e = .returned (.bool (tsB lo n hi)) ∧ w = w' := by
 go_enter Tryz.func83, Tryz.ntmps83
 go_wp2
 all_goals go_ret
 all_goals exact ⟨ret_bool (by rw [Bool.eq_iff_iff, tsB_iff]; simp only [decide_eq_true_eq, Bool.false_eq_true, false_iff]; try omega), rfl⟩
set_option maxRecDepth 100000 in
set_option maxHeartbeats 400000 in
theorem within_any (n lo hi : Int) (w : World) : Calls Tryz.prog 87 #[.int .i64 n, .int .i64 lo, .int .i64 hi] w fun e w' => e = .returned (.bool (tsB lo n hi)) ∧ w = w' := by
 go_enter Tryz.func87, Tryz.ntmps87
 go_wp2
 all_goals go_ret
 all_goals exact ⟨ret_bool (by rw [Bool.eq_iff_iff, tsB_iff]; simp only [decide_eq_true_eq, Bool.false_eq_true, false_iff]; try omega), rfl⟩
set_option maxRecDepth 100000 in
set_option maxHeartbeats 400000 in
theorem isKey_any (n : Int) (w : World) : Calls Tryz.prog 44 #[.int .i64 n] w fun e w' => e = .returned (.bool (tsB 1 n 1000)) ∧ w = w' := by
 go_enter Tryz.func44, Tryz.ntmps44
 go_wp2_with (go_at_call 87; refine (within_any _ _ _ _).mono ?_; rintro e w' ⟨rfl, rfl⟩)
 go_ret
 exact ⟨rfl, rfl⟩
set_option maxRecDepth 100000 in
set_option maxHeartbeats 400000 in
theorem isStamp_any (n : Int) (w : World) : Calls Tryz.prog 45 #[.int .i64 n] w fun e w' => e = .returned (.bool (tsB 1 n 3000000000000000)) ∧ w = w' := by
 go_enter Tryz.func45, Tryz.ntmps45
 go_wp2_with (go_at_call 87; refine (within_any _ _ _ _).mono ?_; rintro e w' ⟨rfl, rfl⟩)
 go_ret
 exact ⟨rfl, rfl⟩
abbrev valV (v : Ver) : Value := .agg #[.int .i64 v.key, .int .i64 v.ts, .int .i64 v.val, .bool v.gone]
set_option maxRecDepth 100000 in
set_option maxHeartbeats 400000 in
theorem wfx_any (v : Ver) (w : World) (h : WfV v) : Calls Tryz.prog 80 #[valV v] w fun e w' => e = .returned (.bool true) ∧ w' = w.alloc (.cells #[.int .i64 v.key, .int .i64 v.ts, .int .i64 v.val, .bool v.gone] 64) := by
 obtain ⟨k, t, x, g⟩ := v
 obtain ⟨h1, h2, h3, h4⟩ := h
 dsimp only at h1 h2 h3 h4
 have d1 : tsB 1 k 1000 = true := tsB_true h1
 have d2 : tsB 1 t 3000000000000000 = true := tsB_true h2
 have d3 : tsB 0 x 1000000 = true := tsB_true h3
 have H1 := hide h1
 have H2 := hide h2
 have H3 := hide h3
 clear h1 h2 h3
 cases g with
 | false =>
  clear h4
  go_enter Tryz.func80, Tryz.ntmps80
  go_wp2_with (first | (go_at_call 44; refine (isKey_any _ _).mono ?_; rintro e w' ⟨rfl, rfl⟩; rw [d1]) | (go_at_call 45; refine (isStamp_any _ _).mono ?_; rintro e w' ⟨rfl, rfl⟩; rw [d2]) | (go_at_call 87; refine (within_any _ _ _ _).mono ?_; rintro e w' ⟨rfl, rfl⟩; rw [d3]))
  go_ret
  exact ⟨rfl, rfl⟩
 | true =>
  obtain rfl := h4 rfl
  go_enter Tryz.func80, Tryz.ntmps80
  go_wp2_with (first | (go_at_call 44; refine (isKey_any _ _).mono ?_; rintro e w' ⟨rfl, rfl⟩; rw [d1]) | (go_at_call 45; refine (isStamp_any _ _).mono ?_; rintro e w' ⟨rfl, rfl⟩; rw [d2]) | (go_at_call 87; refine (within_any _ _ _ _).mono ?_; rintro e w' ⟨rfl, rfl⟩; rw [d3]))
  go_ret
  exact ⟨rfl, rfl⟩
theorem wf_any (v : Ver) (w : World) (h : WfV v) : Calls Tryz.prog 80 #[valV v] w fun e w' => e = .returned (.bool true) ∧ Below w.heap.size w w' := (wfx_any v w h).mono fun e w' ⟨h1, h2⟩ => ⟨h1, by rw [h2]; ((with_reducible repeat' first | exact .refl _ _ | refine .alloc ?_ ?_ _ | refine .setCell ?_ ?_ _ | refine .drew ?_ | refine below_drewN ?_ _) <;> first | omega | simp <;> omega)⟩
def orI (x y : Int) : Int := if x ≠ 0 then x else y
theorem orI_zero (y : Int) : orI 0 y = y := by simp [orI]
theorem orI_ne {x y : Int} (h : ¬ x = 0) : orI x y = x := by simp [orI, h]
def ordV (a b : Ver) : Int := orI (Lib.compareInt a.key b.key) (Lib.compareInt a.ts b.ts)
theorem ordV_neg (a b : Ver) : ordV a b < 0 ↔ vlt a b := by
 unfold ordV vlt orI Lib.compareInt
 split <;> repeat' (first | omega | split)
theorem ordV_zero (a b : Ver) : ordV a b = 0 ↔ a.key = b.key ∧ a.ts = b.ts := by
 unfold ordV orI Lib.compareInt
 split <;> repeat' (first | omega | split)
set_option maxRecDepth 100000 in
set_option maxHeartbeats 1000000 in
theorem Or_any (b : Nat) (x y : Int) (w : World) (h0 : w.cell? ⟨b, 0, none⟩ = some (.int .i64 x)) (h1 : w.cell? ⟨b, 1, none⟩ = some (.int .i64 y)) :
  Calls Tryz.prog 127 #[.slice (some ⟨b, 0, none⟩) 2 2] w fun e w' => e = .returned (.int .i64 (orI x y)) ∧ w = w' := by
 by_cases hx : x = 0
 ·subst hx
  rw [orI_zero]
  by_cases hy : y = 0
  ·subst hy
   go_enter Tryz.func127, Tryz.ntmps127
   go_wp2_with fail
   go_loopw [8] (fun s8 wr => ∃ j : Nat, j ≤ 2 ∧ s8 = .int .i64 j ∧ w = wr) (fun s8 _ => 2 - (intOf s8).toNat)
   case atStart => exact ⟨0, Nat.zero_le _, rfl, rfl⟩
   case round =>
    obtain ⟨j, hj, rfl, rfl⟩ := hrel
    rcases (show j = 0 ∨ j = 1 ∨ j = 2 by omega) with rfl | rfl | rfl
    ·go_wp2_with fail
     go_roundw
     case rel => exact ⟨1, by omega, by go_num, by first | rfl | trivial⟩
     case measure => simp [intOf]
    ·go_wp2_with fail
     go_roundw
     case rel => exact ⟨2, by omega, by go_num, by first | rfl | trivial⟩
     case measure => simp [intOf]
    ·go_wp2_with fail
     go_ret
     exact ⟨rfl, rfl⟩
  ·go_enter Tryz.func127, Tryz.ntmps127
   go_wp2_with fail
   go_loopw [8] (fun s8 wr => ∃ j : Nat, j ≤ 1 ∧ s8 = .int .i64 j ∧ w = wr) (fun s8 _ => 2 - (intOf s8).toNat)
   case atStart => exact ⟨0, Nat.zero_le _, rfl, rfl⟩
   case round =>
    obtain ⟨j, hj, rfl, rfl⟩ := hrel
    rcases (show j = 0 ∨ j = 1 by omega) with rfl | rfl
    ·go_wp2_with fail
     go_roundw
     case rel => exact ⟨1, by omega, by go_num, by first | rfl | trivial⟩
     case measure => simp [intOf]
    ·go_wp2_with fail
     go_ret
     exact ⟨rfl, rfl⟩
 ·rw [orI_ne hx]
  go_enter Tryz.func127, Tryz.ntmps127
  go_wp2_with fail
  go_loopw [8] (fun s8 wr => s8 = .int .i64 0 ∧ w = wr) (fun s8 _ => 2 - (intOf s8).toNat)
  case atStart => exact ⟨rfl, rfl⟩
  case round =>
   obtain ⟨rfl, rfl⟩ := hrel
   go_wp2_with fail
   go_ret
   exact ⟨rfl, rfl⟩
end Go.Proofs.YthkoaecafmhlcaaGreat
