/- The statement's example: r14Logs. -/
import Derived.Test.YthkoaecafmhlcaaGreatTuF
import Derived.Test.YthkoaecafmhlcaaGreatJ39
import Derived.Test.YthkoaecafmhlcaaGreatTtX
import Derived.Test.YthkoaecafmhlcaaGreatTtY
namespace Go.Proofs.YthkoaecafmhlcaaGreat
open Go.RowKit
attribute [local go_sem ↓] run_max_mx run_min_mn
attribute [local simp] size_drewT
theorem rws_box {α : Type} {en : α → List Value} {C : Nat} {d : α} (hen : ∀ x, (en x).length = C) {W : World} {q : Nat} {xs : List α} (h : BxC W q (xs.flatMap en)) (hl : xs.length ≤ 9223372036854775807) : Rws en C d W (.slice (some ⟨q, 0, none⟩) xs.length xs.length) xs :=
 ⟨_, _, rfl, Nat.le_refl _, hl, fun i hi => ⟨q, 0, rfl, h.2.2, fun j u hj => by rw [Nat.zero_add]; exact h.1 _ _ (flat_at hen d xs i hi j u hj)⟩⟩
theorem isrow_box {W : World} {q : Nat} {l : List Int} (h : BxC W q (encI l)) (hl : l.length ≤ 9223372036854775807) : IsRow W (.slice (some ⟨q, 0, none⟩) l.length l.length) l :=
 ⟨_, _, rfl, Nat.le_refl _, hl, fun i hi => ⟨q, 0, rfl, h.2.2, by
  rw [Nat.zero_add]
  refine h.1 i _ ?_
  simp [encI, iAt, List.getD_eq_getElem?_getD, List.getElem?_eq_getElem hi]⟩⟩
def tA : Tx := ⟨1, 10, [], [⟨5, 7, false⟩]⟩
def tB : Tx := ⟨2, 20, [], [⟨5, 8, false⟩]⟩
theorem fm_lit (i t x : Int) (h : (1 ≤ i ∧ i ≤ 1000000) ∧ (0 ≤ t ∧ t ≤ 3000000000000000) ∧ 0 ≤ x ∧ x ≤ 1000000) : Fm ⟨i, t, [], [⟨5, x, false⟩]⟩ := by
 refine ⟨fun j hj => by simp at hj, fun j hj => ?_, h.1, h.2.1, by simp, by simp⟩
 obtain rfl : j = 0 := by simp at hj; exact hj
 refine ⟨⟨by show (1 : Int) ≤ 5; omega, by show (5 : Int) ≤ 1000; omega⟩, h.2.2, (fun h => by cases h), fun h0 => by omega⟩
theorem fmA : Fm tA := fm_lit 1 10 7 (by omega)
theorem fmB : Fm tB := fm_lit 2 20 8 (by omega)
theorem goodA0 : GoodD [] := ⟨List.Pairwise.nil, fun t ht => by simp at ht⟩
theorem goodA : GoodD [tA] := goodD_snoc (D := []) goodA0 fmA (by show (1 : Int) ≤ 10; omega) (by show (0 : Int) < 10; omega)
theorem goodAB : GoodD [tA, tB] := goodD_snoc (D := [tA]) goodA fmB (by show (1 : Int) ≤ 20; omega) (by show (10 : Int) < 20; omega)
theorem AppA_any (wv : Value) (w : World) (h : TvRd w (.slice none 0 0) wv tA) :
  Calls Tryz.prog 8 #[.slice none 0 0, .agg #[.int .i64 1, .int .i64 10, .slice none 0 0, wv]] w fun e w' => (∃ ov, e = .returned (.tuple #[ov, .int .i64 0]) ∧ OwnBy w' w.heap.size ov (logB [tA])) ∧ Below w.heap.size w w' :=
 Append_any _ [] _ _ tA w (Rws.nil _) goodA0 (by simp) h fmA (by show (1 : Int) ≤ 10; omega) (by show (0 : Int) < 10; omega)
theorem AppB_any (v wv : Value) (w : World) (hv : BRow w v (logB [tA])) (h : TvRd w (.slice none 0 0) wv tB) :
  Calls Tryz.prog 8 #[v, .agg #[.int .i64 2, .int .i64 20, .slice none 0 0, wv]] w fun e w' => (∃ ov, e = .returned (.tuple #[ov, .int .i64 0]) ∧ OwnBy w' w.heap.size ov (logB [tA, tB])) ∧ Below w.heap.size w w' :=
 Append_any v [tA] _ _ tB w hv goodA (by simp) h fmB (by show (1 : Int) ≤ 20; omega) (by show (10 : Int) < 20; omega)
theorem cut_AB {m : Nat} (hm : (logB [tA, tB]).length = m + 1) : (logB [tA, tB]).take m = logB [tA] ++ (frm (itx tB)).take (m - (logB [tA]).length) ∧ m - (logB [tA]).length < (frm (itx tB)).length := by
 have e : logB [tA, tB] = logB [tA] ++ frm (itx tB) := logB_snoc [tA] tB
 have hp := frm_pos (itx tB)
 rw [e] at hm ⊢
 rw [List.length_append] at hm
 refine ⟨?_, by omega⟩
 rw [List.take_append, List.take_of_length_le (by omega)]
theorem LoadAB_any (v : Value) (m : Nat) (w : World) (hm : (logB [tA, tB]).length = m + 1) (h : BRow w v ((logB [tA, tB]).take m)) :
  Calls Tryz.prog 9 #[v] w fun e w' => (∃ ov, e = .returned (.tuple #[ov, .int .i64 (logB [tA]).length, .int .i64 0]) ∧ OwnTx w' w.heap.size ov [tA]) ∧ Below w.heap.size w w' := by
 obtain ⟨c1, c2⟩ := cut_AB hm
 rw [c1] at h
 have hl := logB_len [tA, tB] (fun t ht => by simp at ht; rcases ht with rfl | rfl; exact fmA; exact fmB)
 simp only [List.length_cons, List.length_nil] at hl
 refine Load_any v [tA] (itx tB) _ w h goodA (by simp) (okL_itx fmB) c2 ?_
 rw [← c1, List.length_take]
 omega
def cpL : List Cp := [⟨1, [tA]⟩, ⟨2, [tA, tB]⟩, ⟨3, []⟩]
theorem cpL_ok : CpOk cpL [tA, tB] := by
 refine ⟨by simp [cpL], fun i hi => ?_, fun i hi => ?_, fun i hi => ?_, goodAB, by simp⟩
 ·match i, hi with
  | 0, _ => exact ⟨by show (1 : Int) ≤ 1; omega, fun h => by omega⟩
  | 1, _ => exact ⟨by show (1 : Int) ≤ 2; omega, fun _ => by show (1 : Int) < 2; omega⟩
  | 2, _ => exact ⟨by show (1 : Int) ≤ 3; omega, fun _ => by show (2 : Int) < 3; omega⟩
  | i + 3, h => have h' : i + 3 < 3 := h; omega
 ·match i, hi with
  | 0, _ => show (1 : Int) ≤ 64; omega
  | 1, _ => show (2 : Int) ≤ 64; omega
  | 2, _ => show (3 : Int) ≤ 64; omega
  | i + 3, h => have h' : i + 3 < 3 := h; omega
 ·match i, hi with
  | 0, _ => exact ⟨rfl, by show 1 ≤ 2; omega⟩
  | 1, _ => exact ⟨rfl, Nat.le_refl _⟩
  | 2, _ => exact ⟨rfl, Nat.zero_le _⟩
  | i + 3, h => have h' : i + 3 < 3 := h; omega
theorem SafeL_any (v : Value) (w : World) (h : CpR w v cpL) : Calls Tryz.prog 11 #[v] w fun e w' => e = .returned (.tuple #[.int .i64 1, .int .i64 0]) ∧ Below w.heap.size w w' := by
 have h1 := Safe_any v cpL _ w h cpL_ok
 have e : iAt (srtI (szC cpL)) (cpL.length - cpL.length / 2 - 1) = 1 := by
  show iAt (srtI [1, 2, 0]) 1 = 1
  simp [srtI, List.mergeSort, List.MergeSort.Internal.splitInTwo, iAt]
 rw [e] at h1
 exact h1
theorem ElectL_any (v av : Value) (w : World) (h : CpR w v cpL) (ha : IsRow w av [1, 3]) : Calls Tryz.prog 12 #[v, av] w fun e w' => e = .returned (.tuple #[.int .i64 1, .int .i64 0]) ∧ Below w.heap.size w w' :=
 Elect_any v cpL _ av 0 2 w h cpL_ok ha (by omega) (by simp [cpL]) (by simp [cpL])
set_option maxRecDepth 100000 in
set_option maxHeartbeats 4000000 in
theorem Logs_any (w : World) : Calls Tryz.prog 4 #[] w fun e w' => e = .returned (.bool true) ∧ Below w.heap.size w w' := by
 go_enter Tryz.func4, Tryz.ntmps4
 have hb : Below w.heap.size w w := .refl _ _

 go_upto_region 3 with fail
 obtain ⟨W1, hW1⟩ : ∃ V : World, V = (((w.alloc (.cells #[.int .i64 5, .int .i64 7, .bool false] 74)).alloc (.cells #[.int .i64 1, .int .i64 10, .slice none 0 0, .slice (some ⟨w.heap.size, 0, none⟩) 1 1] 28)).alloc (.cells #[.int .i64 5, .int .i64 8, .bool false] 74)).alloc (.cells #[.int .i64 2, .int .i64 20, .slice none 0 0, .slice (some ⟨w.heap.size + 1 + 1, 0, none⟩) 1 1] 28) := ⟨_, rfl⟩
 rw [← hW1]
 have a1 : Below w.heap.size w W1 := by rw [hW1]; ((with_reducible repeat' first | exact .refl _ _ | refine .alloc ?_ ?_ _ | refine .setCell ?_ ?_ _ | refine .drew ?_ | refine below_drewN ?_ _) <;> first | omega | simp <;> omega)
 have hwa : BxC W1 (w.heap.size) [.int .i64 5, .int .i64 7, .bool false] := by
  rw [hW1]
  have h_ := BxC.made (w) [.int .i64 5, .int .i64 7, .bool false] 74
  exact (((h_.alloc _).alloc _).alloc _)
 have hta : BxC W1 (w.heap.size + 1) [.int .i64 1, .int .i64 10, .slice none 0 0, .slice (some ⟨w.heap.size, 0, none⟩) 1 1] := by
  rw [hW1]
  have h_ := BxC.made (w.alloc (.cells #[.int .i64 5, .int .i64 7, .bool false] 74)) [.int .i64 1, .int .i64 10, .slice none 0 0, .slice (some ⟨w.heap.size, 0, none⟩) 1 1] 28
  simp only [World.size_alloc] at h_
  exact ((h_.alloc _).alloc _)
 have hwb : BxC W1 (w.heap.size + 1 + 1) [.int .i64 5, .int .i64 8, .bool false] := by
  rw [hW1]
  have h_ := BxC.made ((w.alloc (.cells #[.int .i64 5, .int .i64 7, .bool false] 74)).alloc (.cells #[.int .i64 1, .int .i64 10, .slice none 0 0, .slice (some ⟨w.heap.size, 0, none⟩) 1 1] 28)) [.int .i64 5, .int .i64 8, .bool false] 74
  simp only [World.size_alloc] at h_
  exact (h_.alloc _)
 have htb : BxC W1 (w.heap.size + 1 + 1 + 1) [.int .i64 2, .int .i64 20, .slice none 0 0, .slice (some ⟨w.heap.size + 1 + 1, 0, none⟩) 1 1] := by
  rw [hW1]
  have h_ := BxC.made (((w.alloc (.cells #[.int .i64 5, .int .i64 7, .bool false] 74)).alloc (.cells #[.int .i64 1, .int .i64 10, .slice none 0 0, .slice (some ⟨w.heap.size, 0, none⟩) 1 1] 28)).alloc (.cells #[.int .i64 5, .int .i64 8, .bool false] 74)) [.int .i64 2, .int .i64 20, .slice none 0 0, .slice (some ⟨w.heap.size + 1 + 1, 0, none⟩) 1 1] 28
  simp only [World.size_alloc] at h_
  exact h_
 have t_ := hb.trans (a1.mono hb.size); clear hb; have hb := t_; clear t_
 clear hW1 a1
 have cwa_0 := hwa.1 0 _ rfl
 have cwa_1 := hwa.1 1 _ rfl
 have cwa_2 := hwa.1 2 _ rfl
 have zwa := hwa.2.2
 have cta_0 := hta.1 0 _ rfl
 have cta_1 := hta.1 1 _ rfl
 have cta_2 := hta.1 2 _ rfl
 have cta_3 := hta.1 3 _ rfl
 have zta := hta.2.2
 have cwb_0 := hwb.1 0 _ rfl
 have cwb_1 := hwb.1 1 _ rfl
 have cwb_2 := hwb.1 2 _ rfl
 have zwb := hwb.2.2
 have ctb_0 := htb.1 0 _ rfl
 have ctb_1 := htb.1 1 _ rfl
 have ctb_2 := htb.1 2 _ rfl
 have ctb_3 := htb.1 3 _ rfl
 have ztb := htb.2.2
 have hTa : TvRd W1 (.slice none 0 0) (.slice (some ⟨w.heap.size, 0, none⟩) 1 1) tA := ⟨Rws.nil _, rws_box encW_length (xs := [⟨5, 7, false⟩]) hwa (by simp)⟩
 have hTb : TvRd W1 (.slice none 0 0) (.slice (some ⟨w.heap.size + 1 + 1, 0, none⟩) 1 1) tB := ⟨Rws.nil _, rws_box encW_length (xs := [⟨5, 8, false⟩]) hwb (by simp)⟩
 clear hwa
 clear hwb
 go_upto_region 4 with (go_at_call 8; (with_reducible refine (AppA_any _ _ hTa).mono ?_); rintro e w2 ⟨⟨av, rfl, hao⟩, k2⟩; have hra := hao.row encB_length 0 (by omega); obtain ⟨aa, ac, rfl, -⟩ := hra.len; clear hao; clear cta_0 cta_1 cta_2 cta_3 zta ctb_0 ctb_1 ctb_2 ctb_3 ztb; have t_ := hta.below hta.2.2 k2; clear hta; have hta := t_; clear t_; have t_ := htb.below htb.2.2 k2; clear htb; have htb := t_; clear t_; have t_ := hTa.below (Nat.le_refl _) k2; clear hTa; have hTa := t_; clear t_; have t_ := hTb.below (Nat.le_refl _) k2; clear hTb; have hTb := t_; clear t_; have t_ := hb.trans (k2.mono hb.size); clear hb; have hb := t_; clear t_; clear k2; have cta_0 := hta.1 0 _ rfl; have cta_1 := hta.1 1 _ rfl; have cta_2 := hta.1 2 _ rfl; have cta_3 := hta.1 3 _ rfl; have zta := hta.2.2; have ctb_0 := htb.1 0 _ rfl; have ctb_1 := htb.1 1 _ rfl; have ctb_2 := htb.1 2 _ rfl; have ctb_3 := htb.1 3 _ rfl; have ztb := htb.2.2)
 go_upto_region 5 with (go_at_call 8; (with_reducible refine (AppB_any _ _ _ hra hTb).mono ?_); rintro e w3 ⟨⟨bv, rfl, hbo⟩, k3⟩; have hrb := hbo.row encB_length 0 (by omega); obtain ⟨ba, bc, rfl, -⟩ := hrb.len; clear hbo; clear cta_0 cta_1 cta_2 cta_3 zta ctb_0 ctb_1 ctb_2 ctb_3 ztb; have t_ := hta.below hta.2.2 k3; clear hta; have hta := t_; clear t_; have t_ := htb.below htb.2.2 k3; clear htb; have htb := t_; clear t_; have t_ := hTa.below (Nat.le_refl _) k3; clear hTa; have hTa := t_; clear t_; have t_ := hTb.below (Nat.le_refl _) k3; clear hTb; have hTb := t_; clear t_; have t_ := hra.below (Nat.le_refl _) k3; clear hra; have hra := t_; clear t_; have t_ := hb.trans (k3.mono hb.size); clear hb; have hb := t_; clear t_; clear k3; have cta_0 := hta.1 0 _ rfl; have cta_1 := hta.1 1 _ rfl; have cta_2 := hta.1 2 _ rfl; have cta_3 := hta.1 3 _ rfl; have zta := hta.2.2; have ctb_0 := htb.1 0 _ rfl; have ctb_1 := htb.1 1 _ rfl; have ctb_2 := htb.1 2 _ rfl; have ctb_3 := htb.1 3 _ rfl; have ztb := htb.2.2)
 obtain ⟨m, hm⟩ : ∃ m, (logB [tA, tB]).length = m + 1 := ⟨(logB [tA, tB]).length - 1, by
  have := frm_pos (itx tB)
  rw [show logB [tA, tB] = logB [tA] ++ frm (itx tB) from logB_snoc [tA] tB, List.length_append]
  omega⟩
 have hML : (logB [tA, tB]).length ≤ 2200 := logB_len [tA, tB] (fun t ht => by simp at ht; rcases ht with rfl | rfl; exact fmA; exact fmB)
 obtain ⟨M, hM⟩ : ∃ M, M = (logB [tA, tB]).length := ⟨_, rfl⟩
 have hbc : M ≤ bc := by
  obtain ⟨a_, c_, e_, h1_, -⟩ := hrb.len
  rw [hM]
  simp only [Value.slice.injEq] at e_
  omega
 have hld : BRow w3 (.slice ba m bc) ((logB [tA, tB]).take m) := by
  have h_ := Rws.take hrb m (by omega)
  exact h_
 have HLd := hide (fun (V : World) (hV : Below w3.heap.size w3 V) => LoadAB_any _ m V hm (hld.below (Nat.le_refl _) hV))
 rw [← hM] at hm hML ⊢
 have w1_ : IntKind.i64.wrap ((M : Int) - 1) = (m : Int) := by rw [IntKind.wrap_i64]; omega
 have w2x : mx (m : Int) 0 = (m : Int) := by unfold mx; rw [if_neg (by omega)]
 have I1 : (0 : Int) ≤ (m : Int) := by omega
 have I2 : (m : Int) ≤ (bc : Int) := by omega
 have I3 : (m : Int) ≤ (M : Int) := by omega
 have HM := hide (And.intro hm hM)
 have HRb := hide hrb
 clear hm hM hld hrb
 go_upto_region 6 with (go_at_call 9; (with_reducible refine (HLd.out _ (.refl _ _)).mono ?_); rintro e w4 ⟨⟨lv, rfl, hlo⟩, k4⟩; have hrl := hlo.ty.row; obtain ⟨la, lc, rfl, -⟩ := hrl.len; clear hlo; clear cta_0 cta_1 cta_2 cta_3 zta ctb_0 ctb_1 ctb_2 ctb_3 ztb; have t_ := hta.below hta.2.2 k4; clear hta; have hta := t_; clear t_; have t_ := htb.below htb.2.2 k4; clear htb; have htb := t_; clear t_; have t_ := hTa.below (Nat.le_refl _) k4; clear hTa; have hTa := t_; clear t_; have t_ := hTb.below (Nat.le_refl _) k4; clear hTb; have hTb := t_; clear t_; have t_ := hra.below (Nat.le_refl _) k4; clear hra; have hra := t_; clear t_; have t_ := hb.trans (k4.mono hb.size); clear hb; have hb := t_; clear t_; clear k4; have cta_0 := hta.1 0 _ rfl; have cta_1 := hta.1 1 _ rfl; have cta_2 := hta.1 2 _ rfl; have cta_3 := hta.1 3 _ rfl; have zta := hta.2.2; have ctb_0 := htb.1 0 _ rfl; have ctb_1 := htb.1 1 _ rfl; have ctb_2 := htb.1 2 _ rfl; have ctb_3 := htb.1 3 _ rfl; have ztb := htb.2.2)
 clear HLd I1 I2 I3 w1_ w2x
 go_upto_region 7 with fail
 obtain ⟨W5, hW5⟩ : ∃ V : World, V = (w4.alloc (.cells #[.int .i64 1, .int .i64 10, .slice none 0 0, .slice (some ⟨w.heap.size, 0, none⟩) 1 1, .int .i64 2, .int .i64 20, .slice none 0 0, .slice (some ⟨w.heap.size + 1 + 1, 0, none⟩) 1 1] 28)).alloc (.cells #[.int .i64 1, .slice la 1 lc, .int .i64 2, .slice (some ⟨w4.heap.size, 0, none⟩) 2 2, .int .i64 3, .slice none 0 0] 52) := ⟨_, rfl⟩
 rw [← hW5]
 clear cta_0 cta_1 cta_2 cta_3 zta ctb_0 ctb_1 ctb_2 ctb_3 ztb
 have a5 : Below w4.heap.size w4 W5 := by rw [hW5]; ((with_reducible repeat' first | exact .refl _ _ | refine .alloc ?_ ?_ _ | refine .setCell ?_ ?_ _ | refine .drew ?_ | refine below_drewN ?_ _) <;> first | omega | simp <;> omega)
 have htt : BxC W5 (w4.heap.size) [.int .i64 1, .int .i64 10, .slice none 0 0, .slice (some ⟨w.heap.size, 0, none⟩) 1 1, .int .i64 2, .int .i64 20, .slice none 0 0, .slice (some ⟨w.heap.size + 1 + 1, 0, none⟩) 1 1] := by
  rw [hW5]
  have h_ := BxC.made (w4) [.int .i64 1, .int .i64 10, .slice none 0 0, .slice (some ⟨w.heap.size, 0, none⟩) 1 1, .int .i64 2, .int .i64 20, .slice none 0 0, .slice (some ⟨w.heap.size + 1 + 1, 0, none⟩) 1 1] 28
  exact (h_.alloc _)
 have hcc : BxC W5 (w4.heap.size + 1) [.int .i64 1, .slice la 1 lc, .int .i64 2, .slice (some ⟨w4.heap.size, 0, none⟩) 2 2, .int .i64 3, .slice none 0 0] := by
  rw [hW5]
  have h_ := BxC.made (w4.alloc (.cells #[.int .i64 1, .int .i64 10, .slice none 0 0, .slice (some ⟨w.heap.size, 0, none⟩) 1 1, .int .i64 2, .int .i64 20, .slice none 0 0, .slice (some ⟨w.heap.size + 1 + 1, 0, none⟩) 1 1] 28)) [.int .i64 1, .slice la 1 lc, .int .i64 2, .slice (some ⟨w4.heap.size, 0, none⟩) 2 2, .int .i64 3, .slice none 0 0] 52
  simp only [World.size_alloc] at h_
  exact h_
 have t_ := hta.below hta.2.2 a5; clear hta; have hta := t_; clear t_
 have t_ := htb.below htb.2.2 a5; clear htb; have htb := t_; clear t_
 have t_ := hTa.below (Nat.le_refl _) a5; clear hTa; have hTa := t_; clear t_
 have t_ := hTb.below (Nat.le_refl _) a5; clear hTb; have hTb := t_; clear t_
 have t_ := hra.below (Nat.le_refl _) a5; clear hra; have hra := t_; clear t_
 have t_ := hrl.below (Nat.le_refl _) a5; clear hrl; have hrl := t_; clear t_
 have t_ := hb.trans (a5.mono hb.size); clear hb; have hb := t_; clear t_
 clear hW5 a5
 have cta_0 := hta.1 0 _ rfl
 have cta_1 := hta.1 1 _ rfl
 have cta_2 := hta.1 2 _ rfl
 have cta_3 := hta.1 3 _ rfl
 have zta := hta.2.2
 have ctb_0 := htb.1 0 _ rfl
 have ctb_1 := htb.1 1 _ rfl
 have ctb_2 := htb.1 2 _ rfl
 have ctb_3 := htb.1 3 _ rfl
 have ztb := htb.2.2
 have ctt_0 := htt.1 0 _ rfl
 have ctt_1 := htt.1 1 _ rfl
 have ztt := htt.2.2
 have ccc_0 := hcc.1 0 _ rfl
 have ccc_1 := hcc.1 1 _ rfl
 have ccc_2 := hcc.1 2 _ rfl
 have ccc_3 := hcc.1 3 _ rfl
 have ccc_4 := hcc.1 4 _ rfl
 have ccc_5 := hcc.1 5 _ rfl
 have zcc := hcc.2.2
 have hTT : TxR W5 (.slice (some ⟨w4.heap.size, 0, none⟩) 2 2) [tA, tB] := ⟨[⟨.slice none 0 0, .slice (some ⟨w.heap.size, 0, none⟩) 1 1, tA⟩, ⟨.slice none 0 0, .slice (some ⟨w.heap.size + 1 + 1, 0, none⟩) 1 1, tB⟩], rfl, rws_box encT_length (xs := [⟨.slice none 0 0, .slice (some ⟨w.heap.size, 0, none⟩) 1 1, tA⟩, ⟨.slice none 0 0, .slice (some ⟨w.heap.size + 1 + 1, 0, none⟩) 1 1, tB⟩]) htt (by simp), fun x hx => by
  simp only [List.mem_cons, List.not_mem_nil, or_false] at hx
  rcases hx with rfl | rfl
  ·exact hTa
  ·exact hTb⟩
 have hCC : CpR W5 (.slice (some ⟨w4.heap.size + 1, 0, none⟩) 3 3) cpL := ⟨[⟨.slice la 1 lc, ⟨1, [tA]⟩⟩, ⟨.slice (some ⟨w4.heap.size, 0, none⟩) 2 2, ⟨2, [tA, tB]⟩⟩, ⟨.slice none 0 0, ⟨3, []⟩⟩], rfl, rws_box encC_length (xs := [⟨.slice la 1 lc, ⟨1, [tA]⟩⟩, ⟨.slice (some ⟨w4.heap.size, 0, none⟩) 2 2, ⟨2, [tA, tB]⟩⟩, ⟨.slice none 0 0, ⟨3, []⟩⟩]) hcc (by simp), fun x hx => by
  simp only [List.mem_cons, List.not_mem_nil, or_false] at hx
  rcases hx with rfl | rfl | rfl
  ·exact hrl
  ·exact hTT
  ·exact TxTy.row (TxTy.nil _)⟩
 clear hTT hTa hTb hra hrl
 clear cta_0 cta_1 cta_2 cta_3 zta ctb_0 ctb_1 ctb_2 ctb_3 ztb ctt_0 ctt_1 ztt ccc_0 ccc_1 ccc_2 ccc_3 ccc_4 ccc_5 zcc
 clear hta
 clear htb
 clear htt
 clear hcc
 go_upto_region 8 with (go_at_call 11; (with_reducible refine (SafeL_any _ _ hCC).mono ?_); rintro e w6 ⟨rfl, k6⟩; have t_ := hCC.below (Nat.le_refl _) k6; clear hCC; have hCC := t_; clear t_; have t_ := hb.trans (k6.mono hb.size); clear hb; have hb := t_; clear t_; clear k6)
 have hia : IsRow (w6.alloc (.cells #[.int .i64 1, .int .i64 3] 3)) (.slice (some ⟨w6.heap.size, 0, none⟩) 2 2) [1, 3] := isrow_box (l := [1, 3]) (BxC.made w6 [.int .i64 1, .int .i64 3] 3) (by simp)
 have HEl := hide (ElectL_any _ _ _ (hCC.below (Nat.le_refl _) (show Below w6.heap.size w6 (w6.alloc (.cells #[.int .i64 1, .int .i64 3] 3)) from (by ((with_reducible repeat' first | exact .refl _ _ | refine .alloc ?_ ?_ _ | refine .setCell ?_ ?_ _ | refine .drew ?_ | refine below_drewN ?_ _) <;> first | omega | simp <;> omega)))) hia)
 clear hia
 go_wp2_with (go_at_call 12; (with_reducible refine HEl.out.mono ?_); rintro e w9 ⟨rfl, k9⟩)
 have k9' : Below w6.heap.size w6 w9 := (by ((with_reducible repeat' first | exact .refl _ _ | exact k9 | refine .alloc ?_ ?_ _ | refine .setCell ?_ ?_ _ | refine .drew ?_ | refine below_drewN ?_ _ | refine Below.trans ?_ (k9.mono ?_)) <;> first | omega | simp <;> omega))
 go_ret
 exact ⟨rfl, hb.trans (k9'.mono hb.size)⟩
end Go.Proofs.YthkoaecafmhlcaaGreat
