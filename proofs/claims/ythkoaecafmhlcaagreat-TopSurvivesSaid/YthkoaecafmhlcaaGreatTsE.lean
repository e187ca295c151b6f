/- slices.Clone of reads, writes, versions and integers; past the end. -/
import Derived.Test.YthkoaecafmhlcaaGreatTsD
namespace Go.Proofs.YthkoaecafmhlcaaGreat
open Go.RowKit
attribute [local go_sem] Oper.semAt_some

theorem own_zeroT {w : World} {base q size : Nat} {T : TypeId} (hh : w.heap[q]? = some (.cells #[] T)) (h : base ≤ q) : w.ownsRow base T size (.slice (some ⟨q, 0, none⟩) 0 0) 0 [] :=
 ⟨by simp, .inr ⟨q, 0, #[], rfl, h, hh, Nat.le_refl _, by unfold maxLen; omega, by simp, by simp⟩⟩
set_option maxRecDepth 100000 in
set_option maxHeartbeats 1000000 in
theorem CloneV_any (v : Value) (c : List (Ver)) (w : World) (hv : VRow w v c) (h2 : c.length ≤ 100000) :
  Calls Tryz.prog 40 #[v] w fun e w' => ∃ v', e = .returned v' ∧ Owns 64 encVr 4 w' w.heap.size v' c ∧ Below w.heap.size w w' := by
 obtain ⟨i0, hi0, hz0, hz1, hz2⟩ := info_parts infoVer
 obtain ⟨a, cap, rfl, g1, g2, g3⟩ := id hv
 cases a with
 | none =>
  have hnil : ∀ W : World, (binOp .eql 36 (.slice none c.length cap) (.slice none 0 0)).run Tryz.prog W = .ok (.bool true) W := fun W => Lib.run_eql_slice_nil W _ _ _ _ _ _ _ Tryz.underlying36
  have h0 : c = [] := by
   refine List.eq_nil_of_length_eq_zero (Nat.eq_zero_of_not_pos fun h => ?_)
   obtain ⟨b, off, e, -⟩ := g3 0 h
   cases e
  clear g3 hv
  subst h0
  simp only [List.length_nil] at hnil ⊢
  go_enter Tryz.func40, Tryz.ntmps40
  go_wp2_with fail
  go_ret
  exact ⟨_, rfl, Owns.nil _ _, Below.refl _ _⟩
 | some ad =>
  have hnil : ∀ W : World, (binOp .eql 36 (.slice (some ad) c.length cap) (.slice none 0 0)).run Tryz.prog W = .ok (.bool false) W := fun W => Lib.run_eql_slice_nil W _ _ _ _ _ _ _ Tryz.underlying36
  have Hs := hide (fun (V : World) (hV : Below w.heap.size w V) => src_rows encVr_length (by omega) (Rws.below hv (Nat.le_refl _) hV))
  clear g3 hv
  go_enter Tryz.func40, Tryz.ntmps40
  go_wp2_with (at_builtin; refine wpList_append_src _ rfl _ _ 36 rfl w.heap.size 64 i0 (.agg #[.int .i64 0, .int .i64 0, .int .i64 0, .bool false]) 4 32 Tryz.underlying36 hi0 hz0 hz1 hz2 rfl (by decide) _ 0 [] rfl (own_zeroT (base := w.heap.size) (World.alloc_heap_new w _) (Nat.le_refl _)) _ c.length (c.flatMap encVr) rfl (Hs.out _ ((Below.refl _ _).alloc (Nat.le_refl _) _)) (encVr_one c) (by unfold maxLen; omega) (by omega) (by simp) ?_; intro v3 w3 hown3 hg3 _)
  go_ret
  refine ⟨_, rfl, ?_, ((Below.refl _ _).alloc (Nat.le_refl _) _).grown hg3 (by simp) (fun r h => by cases h; exact Nat.le_refl _)⟩
  rw [Nat.zero_add, List.nil_append] at hown3
  exact hown3
set_option maxRecDepth 100000 in
set_option maxHeartbeats 1000000 in
theorem CloneS_any (v : Value) (c : List (Int × Int)) (w : World) (hv : SRow w v c) (h2 : c.length ≤ 100000) :
  Calls Tryz.prog 89 #[v] w fun e w' => ∃ v', e = .returned v' ∧ Owns 113 encS 2 w' w.heap.size v' c ∧ Below w.heap.size w w' := by
 obtain ⟨i0, hi0, hz0, hz1, hz2⟩ := info_parts infoSeen
 obtain ⟨a, cap, rfl, g1, g2, g3⟩ := id hv
 cases a with
 | none =>
  have hnil : ∀ W : World, (binOp .eql 25 (.slice none c.length cap) (.slice none 0 0)).run Tryz.prog W = .ok (.bool true) W := fun W => Lib.run_eql_slice_nil W _ _ _ _ _ _ _ Tryz.underlying25
  have h0 : c = [] := by
   refine List.eq_nil_of_length_eq_zero (Nat.eq_zero_of_not_pos fun h => ?_)
   obtain ⟨b, off, e, -⟩ := g3 0 h
   cases e
  clear g3 hv
  subst h0
  simp only [List.length_nil] at hnil ⊢
  go_enter Tryz.func89, Tryz.ntmps89
  go_wp2_with fail
  go_ret
  exact ⟨_, rfl, Owns.nil _ _, Below.refl _ _⟩
 | some ad =>
  have hnil : ∀ W : World, (binOp .eql 25 (.slice (some ad) c.length cap) (.slice none 0 0)).run Tryz.prog W = .ok (.bool false) W := fun W => Lib.run_eql_slice_nil W _ _ _ _ _ _ _ Tryz.underlying25
  have Hs := hide (fun (V : World) (hV : Below w.heap.size w V) => src_rows encS_length (by omega) (Rws.below hv (Nat.le_refl _) hV))
  clear g3 hv
  go_enter Tryz.func89, Tryz.ntmps89
  go_wp2_with (at_builtin; refine wpList_append_src _ rfl _ _ 25 rfl w.heap.size 113 i0 (.agg #[.int .i64 0, .int .i64 0]) 2 16 Tryz.underlying25 hi0 hz0 hz1 hz2 rfl (by decide) _ 0 [] rfl (own_zeroT (base := w.heap.size) (World.alloc_heap_new w _) (Nat.le_refl _)) _ c.length (c.flatMap encS) rfl (Hs.out _ ((Below.refl _ _).alloc (Nat.le_refl _) _)) (encS_one c) (by unfold maxLen; omega) (by omega) (by simp) ?_; intro v3 w3 hown3 hg3 _)
  go_ret
  refine ⟨_, rfl, ?_, ((Below.refl _ _).alloc (Nat.le_refl _) _).grown hg3 (by simp) (fun r h => by cases h; exact Nat.le_refl _)⟩
  rw [Nat.zero_add, List.nil_append] at hown3
  exact hown3
set_option maxRecDepth 100000 in
set_option maxHeartbeats 1000000 in
theorem CloneWr_any (v : Value) (c : List (Wr)) (w : World) (hv : WRow w v c) (h2 : c.length ≤ 100000) :
  Calls Tryz.prog 90 #[v] w fun e w' => ∃ v', e = .returned v' ∧ Owns 74 encW 3 w' w.heap.size v' c ∧ Below w.heap.size w w' := by
 obtain ⟨i0, hi0, hz0, hz1, hz2⟩ := info_parts infoWrite
 obtain ⟨a, cap, rfl, g1, g2, g3⟩ := id hv
 cases a with
 | none =>
  have hnil : ∀ W : World, (binOp .eql 26 (.slice none c.length cap) (.slice none 0 0)).run Tryz.prog W = .ok (.bool true) W := fun W => Lib.run_eql_slice_nil W _ _ _ _ _ _ _ Tryz.underlying26
  have h0 : c = [] := by
   refine List.eq_nil_of_length_eq_zero (Nat.eq_zero_of_not_pos fun h => ?_)
   obtain ⟨b, off, e, -⟩ := g3 0 h
   cases e
  clear g3 hv
  subst h0
  simp only [List.length_nil] at hnil ⊢
  go_enter Tryz.func90, Tryz.ntmps90
  go_wp2_with fail
  go_ret
  exact ⟨_, rfl, Owns.nil _ _, Below.refl _ _⟩
 | some ad =>
  have hnil : ∀ W : World, (binOp .eql 26 (.slice (some ad) c.length cap) (.slice none 0 0)).run Tryz.prog W = .ok (.bool false) W := fun W => Lib.run_eql_slice_nil W _ _ _ _ _ _ _ Tryz.underlying26
  have Hs := hide (fun (V : World) (hV : Below w.heap.size w V) => src_rows encW_length (by omega) (Rws.below hv (Nat.le_refl _) hV))
  clear g3 hv
  go_enter Tryz.func90, Tryz.ntmps90
  go_wp2_with (at_builtin; refine wpList_append_src _ rfl _ _ 26 rfl w.heap.size 74 i0 (.agg #[.int .i64 0, .int .i64 0, .bool false]) 3 24 Tryz.underlying26 hi0 hz0 hz1 hz2 rfl (by decide) _ 0 [] rfl (own_zeroT (base := w.heap.size) (World.alloc_heap_new w _) (Nat.le_refl _)) _ c.length (c.flatMap encW) rfl (Hs.out _ ((Below.refl _ _).alloc (Nat.le_refl _) _)) (encW_one c) (by unfold maxLen; omega) (by omega) (by simp) ?_; intro v3 w3 hown3 hg3 _)
  go_ret
  refine ⟨_, rfl, ?_, ((Below.refl _ _).alloc (Nat.le_refl _) _).grown hg3 (by simp) (fun r h => by cases h; exact Nat.le_refl _)⟩
  rw [Nat.zero_add, List.nil_append] at hown3
  exact hown3
end Go.Proofs.YthkoaecafmhlcaaGreat
