
/- The examples of the chapter on certificates: the site and the schedule. -/
import Derived.Test.YtlmcoollkmhanaaCtV
namespace Go.Proofs.Ytlmcoollkmhanaa
open Go.RowKit

def exQ (k : Nat) : Pr := ⟨(k : Int) + 1, 3, 0, 0, 10, 12, 0, 1⟩
def exC (n : Nat) : List Pr := (List.range n).map exQ
theorem exC_length (n : Nat) : (exC n).length = n := by simp [exC]
theorem exC_snoc (k : Nat) : exC (k + 1) = exC k ++ [exQ k] := by simp [exC, List.range_succ]
def ExSt (w : World) (k m : Nat) (ov sv : Value) (V : World) : Prop :=
 BxC V w.heap.size [.int .i64 0, .int .i64 0, .int .i64 0, .int .i64 0, .slice none 0 0] ∧ BxC V (w.heap.size + 1) [.slice none 0 0, .int .i64 0] ∧
 BxC V (w.heap.size + 1 + 1) [.int .i64 0, .int .i64 1, .int .i64 0, .int .i64 100, ov] ∧ BxC V (w.heap.size + 1 + 1 + 1) [sv, .int .i64 1000] ∧
 OwnPs V (w.heap.size + 4) ov (exC k) ∧ OwnIs V (w.heap.size + 4) sv (toI (List.range m)) ∧ w.heap.size + 4 ≤ V.heap.size ∧ Below w.heap.size w V
theorem ex_peer {w V w3 : World} {k m : Nat} {ov sv v3 : Value} {tmp : Obj} (h : ExSt w k m ov sv V) (hg : (V.alloc tmp).grownBy w3 ov.ownBlock) (hown : w3.ownsRow (w.heap.size + 4) 58 8 v3 (k + 1) (encPs (exC k) ++ (encP (exQ k)).toList)) :
  ExSt w (k + 1) m v3 sv (w3.setCell ⟨w.heap.size + 1 + 1, 4, none⟩ v3) := by
 obtain ⟨b0, b1, b2, b3, o1, o2, hz, hB⟩ := h
 have hlow := World.ownsRow.lt o1
 have hz3 := hg.size
 simp only [World.size_alloc] at hz3
 have hn : ∀ q, q < w.heap.size + 4 → some q ≠ ov.ownBlock := fun q hq e => by have := (hlow q e.symm).1; omega
 have c2 := ((b2.alloc tmp).grown hg (hn _ (by omega))).set 4 v3 (by simp)
 refine ⟨((b0.alloc tmp).grown hg (hn _ (by omega))).setNe (by first | omega | (simp; done) | (simp; omega)) v3, ((b1.alloc tmp).grown hg (hn _ (by omega))).setNe (by first | omega | (simp; done) | (simp; omega)) v3, c2, ((b3.alloc tmp).grown hg (hn _ (by omega))).setNe (by first | omega | (simp; done) | (simp; omega)) v3, ?_, ?_, by simp [World.setCell]; omega, ?_⟩
 ·refine owns_setNe ?_ (by first | omega | (simp; done) | (simp; omega)) _
  have h := OwnPs.app (c := exC k) (p := exQ k) (by rw [exC_length]; exact hown)
  rw [← exC_snoc] at h
  exact h
 ·exact owns_setNe (owns_apart (World.ownsRow.alloc o2 tmp) (World.ownsRow.alloc o1 tmp) (by decide) hg) (by first | omega | (simp; done) | (simp; omega)) _
 ·exact ((hB.alloc (by omega) tmp).grown hg (by simp; omega) (fun r h => by have := (hlow r h).1; omega)).setCell (p := ⟨w.heap.size + 1 + 1, 4, none⟩) (by first | omega | (simp; done) | (simp; omega)) v3
theorem ex_use {w V w3 : World} {k m : Nat} {ov sv v3 : Value} {tmp : Obj} (h : ExSt w k m ov sv V) (hg : (V.alloc tmp).grownBy w3 sv.ownBlock) (hown : w3.ownsRow (w.heap.size + 4) 3 1 v3 (m + 1) (encI (toI (List.range m)) ++ [.int .i64 m])) :
  ExSt w k (m + 1) ov v3 (w3.setCell ⟨w.heap.size + 1 + 1 + 1, 0, none⟩ v3) := by
 obtain ⟨b0, b1, b2, b3, o1, o2, hz, hB⟩ := h
 have hlow := World.ownsRow.lt o2
 have hz3 := hg.size
 simp only [World.size_alloc] at hz3
 have hn : ∀ q, q < w.heap.size + 4 → some q ≠ sv.ownBlock := fun q hq e => by have := (hlow q e.symm).1; omega
 have c3 := ((b3.alloc tmp).grown hg (hn _ (by omega))).set 0 v3 (by simp)
 refine ⟨((b0.alloc tmp).grown hg (hn _ (by omega))).setNe (by first | omega | (simp; done) | (simp; omega)) v3, ((b1.alloc tmp).grown hg (hn _ (by omega))).setNe (by first | omega | (simp; done) | (simp; omega)) v3, ((b2.alloc tmp).grown hg (hn _ (by omega))).setNe (by first | omega | (simp; done) | (simp; omega)) v3, c3, ?_, ?_, by simp [World.setCell]; omega, ?_⟩
 ·exact owns_setNe (owns_apart (World.ownsRow.alloc o1 tmp) (World.ownsRow.alloc o2 tmp) (by decide) hg) (by first | omega | (simp; done) | (simp; omega)) _
 ·refine owns_setNe ?_ (by first | omega | (simp; done) | (simp; omega)) _
  rw [toI_range]
  exact OwnIs.app (by rw [toI_length, List.length_range]; exact hown)
 ·exact ((hB.alloc (by omega) tmp).grown hg (by simp; omega) (fun r h => by have := (hlow r h).1; omega)).setCell (p := ⟨w.heap.size + 1 + 1 + 1, 0, none⟩) (by first | omega | (simp; done) | (simp; omega)) v3
theorem ex_start (w : World) : ExSt w 0 0 (.slice none 0 0) (.slice none 0 0) ((((w.alloc (.cells #[.int .i64 0, .int .i64 0, .int .i64 0, .int .i64 0, .slice none 0 0] 24)).alloc (.cells #[.slice none 0 0, .int .i64 0] 27)).alloc (.cells #[.int .i64 0, .int .i64 1, .int .i64 0, .int .i64 100, .slice none 0 0] 24)).alloc (.cells #[.slice none 0 0, .int .i64 1000] 27)) := by
 have h0 := BxC.made w [.int .i64 0, .int .i64 0, .int .i64 0, .int .i64 0, .slice none 0 0] 24
 have h1 := BxC.made (w.alloc (.cells #[.int .i64 0, .int .i64 0, .int .i64 0, .int .i64 0, .slice none 0 0] 24)) [.slice none 0 0, .int .i64 0] 27
 have h2 := BxC.made ((w.alloc (.cells #[.int .i64 0, .int .i64 0, .int .i64 0, .int .i64 0, .slice none 0 0] 24)).alloc (.cells #[.slice none 0 0, .int .i64 0] 27)) [.int .i64 0, .int .i64 1, .int .i64 0, .int .i64 100, .slice none 0 0] 24
 have h3 := BxC.made (((w.alloc (.cells #[.int .i64 0, .int .i64 0, .int .i64 0, .int .i64 0, .slice none 0 0] 24)).alloc (.cells #[.slice none 0 0, .int .i64 0] 27)).alloc (.cells #[.int .i64 0, .int .i64 1, .int .i64 0, .int .i64 100, .slice none 0 0] 24)) [.slice none 0 0, .int .i64 1000] 27
 simp only [World.size_alloc] at h1 h2 h3
 exact ⟨((h0.alloc _).alloc _).alloc _, (h1.alloc _).alloc _, h2.alloc _, h3, OwnPs.nil _ _, OwnIs.nil _ _, by simp, (by ((with_reducible repeat' first | exact .refl _ _ | refine .alloc ?_ ?_ _ | refine .setCell ?_ ?_ _ | refine .drew ?_ | refine below_drewN ?_ _) <;> first | omega | simp <;> omega))⟩
set_option maxRecDepth 100000 in
set_option maxHeartbeats 2000000 in
theorem example31_any (n : Nat) (hn : n ≤ 100) (w : World) : Calls Try.prog 11 #[.int .i64 n] w fun e w' => ∃ pv uv, e = .returned (.tuple #[.agg #[.int .i64 0, .int .i64 1, .int .i64 0, .int .i64 100, pv], .agg #[uv, .int .i64 1000]]) ∧ (PrRow w' pv (exC n) ∧ IsRow w' uv (toI (List.range n))) ∧ Below w.heap.size w w' := by
 obtain ⟨i0, hi0, hz0, hz1, hz2⟩ := info_parts infoPr
 obtain ⟨i1, hj0, hy0, hy1, hy2⟩ := info_parts infoInt
 go_enter Try.func11, Try.ntmps11
 go_wp2_with fail
 go_loopw [6] (fun s6 wx => ∃ (k : Nat) (ov sv : Value), k ≤ n ∧ s6 = .int .i64 k ∧ ExSt w k k ov sv wx) (fun s6 _ => n - (intOf s6).toNat)
 case atStart => exact ⟨0, .slice none 0 0, .slice none 0 0, Nat.zero_le _, rfl, ex_start w⟩
 case round =>
  obtain ⟨k, ov, sv, hk, rfl, hst⟩ := hrel
  obtain ⟨b0, b1, b2, b3, o1, o2, hz, hB⟩ := id hst
  have y4 := b2.1 4 _ rfl
  have yf := b2.2.1 4
  have hzA := b2.2.2
  by_cases hlt : k < n
  ·obtain ⟨oa, ocap, hov, -, -⟩ := o1.val
   have hlow1 := World.ownsRow.lt o1
   have o1' := o1
   unfold OwnPs at o1'
   rw [exC_length] at o1' hov
   subst hov
   have HST := hide hst
   clear b0 b1 b2 b3 o1 o2 hst
   have tok1 : True := trivial
   go_upto_region 7 with (at_builtin; have _t := tok1; clear tok1; refine wpList_append_own _ rfl _ _ 22 rfl (w.heap.size + 4) 58 i0 (.agg #[.int .i64 0, .int .i64 0, .int .i64 0, .int .i64 0, .int .i64 0, .int .i64 0, .int .i64 0, .int .i64 0]) 8 64 Try.underlying22 hi0 hz0 hz1 hz2 rfl (by decide) _ k (encPs (exC k)) rfl (World.ownsRow.alloc o1' _) ⟨wr.heap.size, 0, none⟩ 1 1 (encP (exQ k)).toList rfl rfl (cells_new wr (encP (exQ k)).toList _) (by simp [Value.oneCell', encP]) (by unfold maxLen; omega) (by omega) (by simp; omega) ?_; intro v3 w3 hown3 hg3 _; have hz3 := hg3.size; simp only [World.size_alloc] at hz3; obtain ⟨c3, f3⟩ := grown_keeps hg3 (b := w.heap.size + 1 + 1) (by simp; omega) (fun h => (by have := hlow1 _ h.symm; omega)); obtain ⟨a3, cap3, hv3⟩ := ownsRow_val hown3; subst hv3)
   have hst2 := ex_peer HST.out hg3 hown3
   obtain ⟨V1, hV1⟩ : ∃ V : World, V = w3.setCell ⟨w.heap.size + 1 + 1, 4, none⟩ (.slice a3 (k + 1) cap3) := ⟨_, rfl⟩
   rw [← hV1] at hst2 ⊢
   obtain ⟨b0, b1, b2, b3, o1, o2, hz, hB⟩ := id hst2
   have y3 := b3.1 0 _ rfl
   have yf3 := b3.2.1 0
   have hl1 := b3.2.2
   obtain ⟨ob, obc, hov2, -, -⟩ := o2.val
   have hlow2 := World.ownsRow.lt o2
   have o2' := o2
   unfold OwnIs at o2'
   rw [toI_length, List.length_range] at o2' hov2
   subst hov2
   have HST2 := hide hst2
   clear hst2 hV1 b0 b1 b2 b3 o1 o2 hown3 hg3 c3 f3 hlow1 o1' HST y4 yf
   go_wp2_with (at_builtin; refine wpList_append_own _ rfl _ _ 25 rfl (w.heap.size + 4) 3 i1 (.int .i64 0) 1 8 Try.underlying25 hj0 hy0 hy1 hy2 rfl (by decide) _ k (encI (toI (List.range k))) rfl (World.ownsRow.alloc o2' _) ⟨V1.heap.size, 0, none⟩ 1 1 [.int .i64 k] rfl rfl (cells_new V1 [.int .i64 k] _) (by simp [Value.oneCell']) (by unfold maxLen; omega) (by omega) (by simp; omega) ?_; intro v4 w4 hown4 hg4 _; have hz4 := hg4.size; simp only [World.size_alloc] at hz4; obtain ⟨c4, f4⟩ := grown_keeps hg4 (b := w.heap.size + 1 + 1 + 1) (by simp; omega) (fun h => (by have := hlow2 _ h.symm; omega)); obtain ⟨a4, cap4, hv4⟩ := ownsRow_val hown4; subst hv4)
   have hst3 := ex_use HST2.out hg4 hown4
   have HST3 := hide hst3
   clear hst3
   go_roundw
   case rel => exact ⟨k + 1, _, _, by omega, by go_num, HST3.out⟩
   case measure => simp [intOf]; omega
  ·obtain rfl : k = n := by omega
   obtain ⟨z0, z1, z2, z3, z4⟩ := (And.intro (b0.1 0 _ rfl) (And.intro (b0.1 1 _ rfl) (And.intro (b0.1 2 _ rfl) (And.intro (b0.1 3 _ rfl) (b0.1 4 _ rfl)))))
   obtain ⟨s0, s1⟩ := And.intro (b1.1 0 _ rfl) (b1.1 1 _ rfl)
   obtain ⟨p0, p1, p2, p3, p4⟩ := (And.intro (b2.1 0 _ rfl) (And.intro (b2.1 1 _ rfl) (And.intro (b2.1 2 _ rfl) (And.intro (b2.1 3 _ rfl) (b2.1 4 _ rfl)))))
   obtain ⟨q0, q1⟩ := And.intro (b3.1 0 _ rfl) (b3.1 1 _ rfl)
   have fz0 := b0.2.1
   have fz1 := b1.2.1
   obtain ⟨oa, ocap, hov, -, -⟩ := o1.val
   obtain ⟨ob, obc, hov2, -, -⟩ := o2.val
   subst hov hov2
   have HO := hide (And.intro o1 o2)
   have HB := hide hB
   have HST := hide hst
   clear b0 b1 b2 b3 o1 o2 hB hst y4 yf
   go_wp2_with fail
   go_region
   all_goals
    go_wp2_with fail
    refine bodyPost_ret (v := .tuple #[.agg #[.int .i64 0, .int .i64 1, .int .i64 0, .int .i64 100, .slice oa (exC k).length ocap], .agg #[.slice ob (toI (List.range k)).length obc, .int .i64 1000]]) (by simp [results, Try.results11, go_sem, *]) rfl ⟨_, _, rfl, ⟨?_, ?_⟩, (by ((with_reducible repeat' first | exact .refl _ _ | exact HB.out | refine .alloc ?_ ?_ _ | refine .setCell ?_ ?_ _ | refine .drew ?_ | refine below_drewN ?_ _ | refine Below.trans ?_ (HB.out.mono ?_)) <;> first | omega | simp <;> omega))⟩
    ·refine OwnPs.row (base := w.heap.size + 4) ?_
     unfold OwnPs
     refine owns_same HO.out.1 fun q hq => ?_
     have hq2 := (World.ownsRow.lt HO.out.1 q hq).1
     rw [show ∀ W : World, W.drew.heap = W.heap from fun _ => rfl, Below.heap_setCell _ _ _ q (by simp only; omega), Below.heap_setCell _ _ _ q (by simp only; omega), Below.heap_setCell _ _ _ q (by simp only; omega), Below.heap_setCell _ _ _ q (by simp only; omega), Below.heap_setCell _ _ _ q (by simp only; omega), Below.heap_setCell _ _ _ q (by simp only; omega), Below.heap_setCell _ _ _ q (by simp only; omega)]
    ·refine OwnIs.row (base := w.heap.size + 4) ?_
     unfold OwnIs
     refine owns_same HO.out.2 fun q hq => ?_
     have hq2 := (World.ownsRow.lt HO.out.2 q hq).1
     rw [show ∀ W : World, W.drew.heap = W.heap from fun _ => rfl, Below.heap_setCell _ _ _ q (by simp only; omega), Below.heap_setCell _ _ _ q (by simp only; omega), Below.heap_setCell _ _ _ q (by simp only; omega), Below.heap_setCell _ _ _ q (by simp only; omega), Below.heap_setCell _ _ _ q (by simp only; omega), Below.heap_setCell _ _ _ q (by simp only; omega), Below.heap_setCell _ _ _ q (by simp only; omega)]
end Go.Proofs.Ytlmcoollkmhanaa
