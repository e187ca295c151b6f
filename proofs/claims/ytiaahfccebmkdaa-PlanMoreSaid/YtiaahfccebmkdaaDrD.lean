/- Package drift's Elapsed and Counts, and those of the reference of layer 7: what each call returns. -/
import Derived.Test.YtiaahfccebmkdaaDrC
namespace Go.Proofs.Ytiaahfccebmkdaa
open Go.RowKit
attribute [local go_sem ↓] run_max_mx run_min_mn
theorem el_ways (r c : Int) : (elOk r c = true ∧ inB r 0 1000000 = true ∧ inB c 0 1000000000000000 = true) ∨ (elOk r c = false ∧ inB r 0 1000000 = false) ∨ (elOk r c = false ∧ inB r 0 1000000 = true ∧ inB c 0 1000000000000000 = false) := by
  unfold elOk
  cases inB r 0 1000000 <;> cases inB c 0 1000000000000000 <;> simp
theorem el_in {r c : Int} (h : elOk r c = true) : DrIn (c - 1) 1000000000 (1000000000 + r) ∧ DrIn (c + 1) 1000000000 (1000000000 - r) ∧ DrIn c (1000000000 - r) 1000000000 ∧ DrIn c (1000000000 + r) 1000000000 := by
  have := (elOk_iff r c).1 h
  unfold DrIn
  omega
set_option maxRecDepth 100000 in
set_option maxHeartbeats 1000000 in
theorem Elapsed_any (r c : Int) (w : World) : Calls Try.prog 52 #[.int .i64 r, .int .i64 c] w fun e w' => e = .returned (.tuple #[.agg #[.int .i64 (elLo r c), .int .i64 (elHi r c)], .int .i64 (elEr r c)]) ∧ Below w.heap.size w w' := by
  rcases el_ways r c with ⟨h, h1, h2⟩ | ⟨h, h1⟩ | ⟨h, h1, h2⟩
  · have hd := el_in h
    have hi := (elOk_iff r c).1 h
    have hb := el_bd h
    have e1 : elLo r c = (c - 1) * 1000000000 / (1000000000 + r) + 1 := by unfold elLo; rw [if_pos h]
    have e2 : elHi r c = cei ((c + 1) * 1000000000) (1000000000 - r) - 1 := by unfold elHi; rw [if_pos h]
    have e3 : elEr r c = 0 := by unfold elEr; rw [if_pos h]
    have hl := Floor_any _ _ _ hd.1
    have hh := Ceil_any _ _ _ hd.2.1
    rw [e1, e2] at hb
    rw [e1, e2, e3]
    generalize (c - 1) * 1000000000 / (1000000000 + r) = x at *
    generalize cei ((c + 1) * 1000000000) (1000000000 - r) = y at *
    have hm : mx (x + 1) 0 = x + 1 := by unfold mx; rw [if_neg (by omega)]
    clear e1 e2 e3 h hd
    go_enter Try.func52, Try.ntmps52
    go_wp2_with (first | (go_at_call 72; refine (isBound_any _ _).mono ?_; rintro e w' ⟨rfl, rfl⟩) | (go_at_call 73; refine (isStretch_any _ _).mono ?_; rintro e w' ⟨rfl, rfl⟩) | (go_at_call 74; refine (hl _).mono ?_; rintro e w1 ⟨rfl, b1⟩; obtain ⟨kb1_0, fb1_0, zb1_0, zab1_0, zbb1_0, zcb1_0, zdb1_0, zeb1_0⟩ := bk3 b1 (w.heap.size) (by first | omega | (simp; done) | (simp; omega))) | (go_at_call 75; refine (hh _).mono ?_; rintro e w2 ⟨rfl, b2⟩; obtain ⟨kb2_0, fb2_0, zb2_0, zab2_0, zbb2_0, zcb2_0, zdb2_0, zeb2_0⟩ := bk3 b2 (w.heap.size) (by first | omega | (simp; done) | (simp; omega))))
    refine bodyPost_ret (v := .tuple #[.agg #[.int .i64 (x + 1), .int .i64 (y - 1)], .int .i64 0]) (by simp [results, Try.results52, go_sem, kb1_0, kb2_0]) rfl ⟨rfl, ?_⟩
    have z1 := b1.size
    ((repeat' (first | with_reducible exact Below.refl _ _ | with_reducible exact b1 | with_reducible exact b2 | with_reducible refine Below.alloc ?_ ?_ _ | with_reducible refine Below.setCell ?_ ?_ _ | with_reducible refine Below.drew ?_ | with_reducible refine below_drewN ?_ _ | with_reducible refine Below.trans ?_ (b1.mono ?_) | with_reducible refine Below.trans ?_ (b2.mono ?_))) <;> (first | omega | (simp; done) | (simp; omega)))
  all_goals
    obtain ⟨e1, e2, e3, -, -⟩ := elOk_no h
    rw [e1, e2, e3]
    clear e1 e2 e3 h
    go_enter Try.func52, Try.ntmps52
    go_wp2_with (first | (go_at_call 72; refine (isBound_any _ _).mono ?_; rintro e w' ⟨rfl, rfl⟩) | (go_at_call 73; refine (isStretch_any _ _).mono ?_; rintro e w' ⟨rfl, rfl⟩))
    refine bodyPost_ret (v := .tuple #[.agg #[.int .i64 0, .int .i64 0], .int .i64 1]) (by simp [results, Try.results52, go_sem]) rfl ⟨rfl, ?_⟩
    ((repeat' (first | with_reducible exact Below.refl _ _ | with_reducible refine Below.alloc ?_ ?_ _ | with_reducible refine Below.setCell ?_ ?_ _ | with_reducible refine Below.drew ?_ | with_reducible refine below_drewN ?_ _)) <;> (first | omega | (simp; done) | (simp; omega)))
set_option maxRecDepth 100000 in
set_option maxHeartbeats 1000000 in
theorem Counts_any (r c : Int) (w : World) : Calls Try.prog 78 #[.int .i64 r, .int .i64 c] w fun e w' => e = .returned (.tuple #[.agg #[.int .i64 (ctLo r c), .int .i64 (ctHi r c)], .int .i64 (elEr r c)]) ∧ Below w.heap.size w w' := by
  rcases el_ways r c with ⟨h, h1, h2⟩ | ⟨h, h1⟩ | ⟨h, h1, h2⟩
  · have hd := el_in h
    have hi := (elOk_iff r c).1 h
    have e1 : ctLo r c = c * (1000000000 - r) / 1000000000 := by unfold ctLo; rw [if_pos h]
    have e2 : ctHi r c = cei (c * (1000000000 + r)) 1000000000 := by unfold ctHi; rw [if_pos h]
    have e3 : elEr r c = 0 := by unfold elEr; rw [if_pos h]
    have hl := Floor_any _ _ _ hd.2.2.1
    have hh := Ceil_any _ _ _ hd.2.2.2
    rw [e1, e2, e3]
    generalize c * (1000000000 - r) / 1000000000 = x at *
    generalize cei (c * (1000000000 + r)) 1000000000 = y at *
    clear e1 e2 e3 h hd
    go_enter Try.func78, Try.ntmps78
    go_wp2_with (first | (go_at_call 72; refine (isBound_any _ _).mono ?_; rintro e w' ⟨rfl, rfl⟩) | (go_at_call 73; refine (isStretch_any _ _).mono ?_; rintro e w' ⟨rfl, rfl⟩) | (go_at_call 74; refine (hl _).mono ?_; rintro e w1 ⟨rfl, b1⟩; obtain ⟨kb1_0, fb1_0, zb1_0, zab1_0, zbb1_0, zcb1_0, zdb1_0, zeb1_0⟩ := bk3 b1 (w.heap.size) (by first | omega | (simp; done) | (simp; omega))) | (go_at_call 75; refine (hh _).mono ?_; rintro e w2 ⟨rfl, b2⟩; obtain ⟨kb2_0, fb2_0, zb2_0, zab2_0, zbb2_0, zcb2_0, zdb2_0, zeb2_0⟩ := bk3 b2 (w.heap.size) (by first | omega | (simp; done) | (simp; omega))))
    refine bodyPost_ret (v := .tuple #[.agg #[.int .i64 x, .int .i64 y], .int .i64 0]) (by simp [results, Try.results78, go_sem, kb1_0, kb2_0]) rfl ⟨rfl, ?_⟩
    have z1 := b1.size
    ((repeat' (first | with_reducible exact Below.refl _ _ | with_reducible exact b1 | with_reducible exact b2 | with_reducible refine Below.alloc ?_ ?_ _ | with_reducible refine Below.setCell ?_ ?_ _ | with_reducible refine Below.drew ?_ | with_reducible refine below_drewN ?_ _ | with_reducible refine Below.trans ?_ (b1.mono ?_) | with_reducible refine Below.trans ?_ (b2.mono ?_))) <;> (first | omega | (simp; done) | (simp; omega)))
  all_goals
    obtain ⟨-, -, e3, e1, e2⟩ := elOk_no h
    rw [e1, e2, e3]
    clear e1 e2 e3 h
    go_enter Try.func78, Try.ntmps78
    go_wp2_with (first | (go_at_call 72; refine (isBound_any _ _).mono ?_; rintro e w' ⟨rfl, rfl⟩) | (go_at_call 73; refine (isStretch_any _ _).mono ?_; rintro e w' ⟨rfl, rfl⟩))
    refine bodyPost_ret (v := .tuple #[.agg #[.int .i64 0, .int .i64 0], .int .i64 1]) (by simp [results, Try.results78, go_sem]) rfl ⟨rfl, ?_⟩
    ((repeat' (first | with_reducible exact Below.refl _ _ | with_reducible refine Below.alloc ?_ ?_ _ | with_reducible refine Below.setCell ?_ ?_ _ | with_reducible refine Below.drew ?_ | with_reducible refine below_drewN ?_ _)) <;> (first | omega | (simp; done) | (simp; omega)))
end Go.Proofs.Ytiaahfccebmkdaa
