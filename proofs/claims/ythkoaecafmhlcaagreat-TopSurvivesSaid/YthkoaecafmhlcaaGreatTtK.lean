/- Package journal: read (a transaction out of integers). -/
import Derived.Test.YthkoaecafmhlcaaGreatJ26
namespace Go.Proofs.YthkoaecafmhlcaaGreat
open Go.RowKit
attribute [local simp] size_drewT
theorem read1_idle (p q : Addr) (w : World) : CallsD Tryz.prog 94 #[.pointer (some p), .pointer (some q)] .returning w fun e u' w' => e = .returned (.tuple #[]) ∧ u' = .returning ∧ w' = w := by
  refine callsD_of_wpS Tryz.func94 rfl fun c₀ cs hu => ?_
  apply wpS_seq
  apply wpS_region
  simp [wpOpsS, go_sem, recoverD, hu, Tryz.ntmps94, Exit.thenS, Array.replicate]
  refine wpS_cond (t := false) (by simp [Act.eval]) ?_
  simp only [Bool.false_eq_true, if_false]
  refine wpS_of_wp (wp_skip ?_)
  cases c₀
  simp_all [bodyPostS, results, Tryz.results94]
theorem LstB.same {lim : Nat} {w w' : World} {rb : Nat} {l : List Int} (h : LstB lim w rb l) (hz : w.heap.size ≤ w'.heap.size) (hr : w'.heap[rb]? = w.heap[rb]?) (hb : ∀ q, q < lim → w'.heap[q]? = w.heap[q]?) : LstB lim w' rb l := by
  obtain ⟨h0, lv, h1, h2, h3⟩ := h
  exact ⟨h0, lv, h1.same hz hr, isrow_same31 h2 hz (fun q e => hb q (h3 q e)), h3⟩
theorem LstB.set {lim : Nat} {w : World} {rb b i : Nat} {l : List Int} {u : Value} (h : LstB lim w rb l) (h1 : rb ≠ b) (h2 : lim ≤ b) : LstB lim (w.setCell ⟨b, i, none⟩ u) rb l :=
  h.same (by simp [World.setCell]) (Below.heap_setCell _ _ _ _ h1) (fun q hq => Below.heap_setCell _ _ _ q (by show q ≠ b; omega))
theorem LstB.grown {lim : Nat} {w w' : World} {rb : Nat} {row : Option Nat} {l : List Int} (h : LstB lim w rb l) (hg : w.grownBy w' row) (h1 : some rb ≠ row) (h2 : ∀ r, row = some r → lim ≤ r) : LstB lim w' rb l := by
  have hlt : rb < w.heap.size := by obtain ⟨-, lv, h1, -, -⟩ := h; exact h1.2.2
  have hl0 := h.1
  exact h.same hg.size (hg.block _ hlt h1) (fun q hq => hg.block q (by omega) (fun e => by have := h2 q e.symm; omega))
theorem itx_eq (t : Tx) : itx t = t.id :: t.ts :: (t.rd.length : Int) :: (t.rd.flatMap sI ++ ((t.wr.length : Int) :: t.wr.flatMap wI)) := by
  simp [itx]
theorem itx_len (t : Tx) (h1 : t.rd.length ≤ 8) (h2 : t.wr.length ≤ 8) : (itx t).length ≤ 100 := by
  unfold itx
  rw [List.length_append, List.length_append, List.length_append, len_sI, len_wI]
  show 3 + _ + (1 + _) ≤ _
  omega
set_option maxHeartbeats 4000000 in
set_option maxRecDepth 100000 in
set_option maxHeartbeats 400000 in
theorem read_any (v : Value) (t : Tx) (w : World) (h : IsRow w v (itx t)) (hf : Fm t) (h1 : 1 ≤ t.ts) :
    Calls Tryz.prog 59 #[v] w fun e w' => (∃ rv wv, e = .returned (.tuple #[valT rv wv t, .bool true]) ∧ TvTy w' rv wv t ∧ LocT w.heap.size rv wv) ∧ Below w.heap.size w w' := by
  have hmf : ∀ (fn : Fn) (first cap : Array Value) (w : World), (Instr.makeFunc fn first cap).run Tryz.prog w = .ok (.func fn first cap) w := fun _ _ _ _ => rfl
  have hr8 : t.rd.length ≤ 8 := hf.2.2.2.2.1
  have hw8 : t.wr.length ≤ 8 := hf.2.2.2.2.2
  have hil := itx_len t hr8 hw8
  obtain ⟨b, off, cap, rfl, hc1, hc2, hlt0, -, -⟩ := h.at0 (by rw [itx_eq]; simp)
  obtain ⟨iS, hS, hs0, hs1, hs2⟩ := info_parts infoSeen
  obtain ⟨iW, hWi, hw0, hw1, hw2⟩ := info_parts infoWrite
  go_enter_defers Tryz.func59, Tryz.ntmps59
  go_upto_region 3 with fail
  obtain ⟨m, hm⟩ : ∃ m, m = (itx t).length := ⟨_, rfl⟩
  obtain ⟨W, hW⟩ : ∃ V, V = ((w.alloc (.cells #[.int .i64 0, .int .i64 0, .slice none 0 0, .slice none 0 0] 28)).alloc (.cells #[.bool false] 4)).alloc (.cells #[.slice (some ⟨b, off, none⟩) (itx t).length cap] 155) := ⟨_, rfl⟩
  have hA : BxC W w.heap.size [.int .i64 0, .int .i64 0, .slice none 0 0, .slice none 0 0] := by rw [hW]; exact ((BxC.made w [.int .i64 0, .int .i64 0, .slice none 0 0, .slice none 0 0] _).alloc _).alloc _
  have hB : BxC W (w.heap.size + 1) [.bool false] := by
    have h_ := (BxC.made (w.alloc (.cells #[.int .i64 0, .int .i64 0, .slice none 0 0, .slice none 0 0] 28)) [.bool false] 4).alloc (.cells #[.slice (some ⟨b, off, none⟩) (itx t).length cap] 155)
    rw [World.size_alloc] at h_
    rw [hW]; exact h_
  have hR : BxC W (w.heap.size + 1 + 1) [.slice (some ⟨b, off, none⟩) (itx t).length cap] := by
    have h_ := BxC.made ((w.alloc (.cells #[.int .i64 0, .int .i64 0, .slice none 0 0, .slice none 0 0] 28)).alloc (.cells #[.bool false] 4)) [.slice (some ⟨b, off, none⟩) (itx t).length cap] 155
    rw [World.size_alloc, World.size_alloc] at h_
    rw [hW]; exact h_
  have hb0 : Below w.heap.size w W := by rw [hW]; ((with_reducible repeat' first | exact .refl _ _ | refine .alloc ?_ ?_ _ | refine .setCell ?_ ?_ _ | refine .drew ?_ | refine below_drewN ?_ _) <;> first | omega | simp <;> omega)
  have zW : W.heap.size = w.heap.size + 3 := by rw [hW]; simp
  rw [← hW]
  clear hW
  have hL : LstB w.heap.size W (w.heap.size + 1 + 1) (itx t) := ⟨by omega, _, hR, h.below (Nat.le_refl _) hb0, fun q e => by cases e; exact hlt0⟩
  rw [itx_eq] at hL
  obtain ⟨ti, tt, rl, wl⟩ := t
  dsimp only at hL hr8 hw8 h1
  have hlb : (rl.flatMap sI ++ ((wl.length : Int) :: wl.flatMap wI)).length ≤ 100 := by rw [List.length_append, len_sI, List.length_cons, len_wI]; omega
  have HN1 := hide (next_any w.heap.size (w.heap.size + 1 + 1) _ _ W hL (by simp only [List.length_cons]; omega))
  have HBB := hide hB
  have HAA := hide hA
  have Hb0 := hide hb0
  clear hL hR h hB hA hb0
  have HN2 := hide (fun (V : World) (n : Int) (l : List Int) (hV : LstB w.heap.size V (w.heap.size + 1 + 1) (n :: l)) (hl : l.length ≤ 1000) => next_any w.heap.size (w.heap.size + 1 + 1) n l V hV hl)
  have HLB := hide hlb
  clear hlb
  obtain ⟨R0, hR0⟩ : ∃ R, R = (rl.flatMap sI ++ ((wl.length : Int) :: wl.flatMap wI)) := ⟨_, rfl⟩
  rw [← hR0] at HN1 HLB
  have HR0 := hide hR0
  clear hR0
  go_upto_region 4 with (first
    | (go_at_call 95; (with_reducible refine HN1.out.mono ?_); rintro e w1 ⟨rfl, r1, g1, z1⟩; have R1 := hide r1; clear r1; have hA1 := HAA.out.grown g1 (fun e => by have := Option.some.inj e; omega); have hB1 := HBB.out.grown g1 (fun e => by have := Option.some.inj e; omega); have bb1 := Hb0.out.grown g1 (by omega) (fun r e => by cases e; omega))
    | (go_at_call 95; (with_reducible refine (HN2.out _ _ _ R1.out (by have := HLB.out; simp only [List.length_cons]; omega)).mono ?_); rintro e w2 ⟨rfl, r2, g2, z2⟩; have R2 := hide r2; clear r2; have hA2 := hA1.grown g2 (fun e => by have := Option.some.inj e; omega); have hB2 := hB1.grown g2 (fun e => by have := Option.some.inj e; omega); have bb2 := bb1.grown g2 (by omega) (fun r e => by cases e; omega); have c20 := hA2.1 0 _ rfl; have c21 := hA2.1 1 _ rfl; have f2 := hA2.2.1; have z2b := hA2.2.2))
  have hA3 := (hA2.set 0 (.int .i64 ti) (by simp)).set 1 (.int .i64 tt) (by simp)
  have hB3 := (hB2.setNe (p := ⟨w.heap.size, 0, none⟩) (by show w.heap.size + 1 ≠ w.heap.size; omega) (.int .i64 ti)).setNe (p := ⟨w.heap.size, 1, none⟩) (by show w.heap.size + 1 ≠ w.heap.size; omega) (.int .i64 tt)
  have hL3 := (R2.out.set (b := w.heap.size) (i := 0) (u := .int .i64 ti) (by omega) (Nat.le_refl _)).set (b := w.heap.size) (i := 1) (u := .int .i64 tt) (by omega) (Nat.le_refl _)
  have bb3 := (bb2.setCell (p := ⟨w.heap.size, 0, none⟩) (Nat.le_refl _) (.int .i64 ti)).setCell (p := ⟨w.heap.size, 1, none⟩) (Nat.le_refl _) (.int .i64 tt)
  have z3 : ((w2.setCell ⟨w.heap.size, 0, none⟩ (.int .i64 ti)).setCell ⟨w.heap.size, 1, none⟩ (.int .i64 tt)).heap.size = w.heap.size + 3 := by simp [World.setCell]; omega
  dsimp only [List.set] at hA3
  generalize (w2.setCell ⟨w.heap.size, 0, none⟩ (.int .i64 ti)).setCell ⟨w.heap.size, 1, none⟩ (.int .i64 tt) = W3 at *
  clear hA2 hB2 bb2 c20 c21 f2 z2b g2 z2 R2 hA1 hB1 bb1 g1 z1 R1 HN1 HAA HBB Hb0 zW
  have HC1 := hide (count_any w.heap.size (w.heap.size + 1 + 1) (rl.length : Int) R0 W3 hL3 (by have := HLB.out; omega) (by omega))
  have HA3 := hide (And.intro hA3 (And.intro hB3 bb3))
  clear hA3 hB3 bb3 hL3
  go_wp2_with (go_at_call 96; (with_reducible refine HC1.out.mono ?_); rintro e w4 ⟨rfl, r4, g4, z4⟩)
  have HA4 := hide (And.intro (HA3.out.1.grown g4 (fun e => by have := Option.some.inj e; omega)) (And.intro (HA3.out.2.1.grown g4 (fun e => by have := Option.some.inj e; omega)) (HA3.out.2.2.grown g4 (by omega) (fun r e => by cases e; omega))))
  have R4 := hide r4
  clear r4 g4 HC1
  go_loopw [17] (fun s17 wx => ∃ (k : Nat) (rv : Value), k ≤ rl.length ∧ s17 = .int .i64 k ∧ Hid (BxC wx w.heap.size [.int .i64 ti, .int .i64 tt, rv, .slice none 0 0] ∧ BxC wx (w.heap.size + 1) [.bool false] ∧ LstB w.heap.size wx (w.heap.size + 1 + 1) ((rl.drop k).flatMap sI ++ ((wl.length : Int) :: wl.flatMap wI))) ∧ Hid (Owns 113 encS 2 wx (w.heap.size + 3) rv (rl.take k)) ∧ Below w.heap.size w wx ∧ w.heap.size + 3 ≤ wx.heap.size) (fun s17 _ => rl.length - (intOf s17).toNat)
  case atStart => exact ⟨0, _, Nat.zero_le _, rfl, hide ⟨HA4.out.1, HA4.out.2.1, by rw [List.drop_zero, ← HR0.out]; exact R4.out⟩, hide (Owns.nil _ _), HA4.out.2.2, by omega⟩
  case round =>
    clear HA4 R4 HA3 z4 z3
    obtain ⟨k, rv, hk, rfl, HX, HO, hB, hzz⟩ := hrel
    by_cases hlt : k < rl.length
    · obtain ⟨b0, b1, b2⟩ := HX.out
      have hown := HO.out
      have hlk : (rl.take k).length = k := by rw [List.length_take]; omega
      obtain ⟨sk, st, hst⟩ : ∃ a c, rl[k] = (a, c) := ⟨_, _, rfl⟩
      have htk : rl.take (k + 1) = rl.take k ++ [(sk, st)] := by rw [List.take_succ_eq_append_getElem hlt, hst]
      have hdk : (rl.drop k).flatMap sI ++ ((wl.length : Int) :: wl.flatMap wI) = sk :: st :: ((rl.drop (k + 1)).flatMap sI ++ ((wl.length : Int) :: wl.flatMap wI)) := by rw [List.drop_eq_getElem_cons hlt, List.flatMap_cons, hst]; rfl
      have hdl : ((rl.drop (k + 1)).flatMap sI ++ ((wl.length : Int) :: wl.flatMap wI)).length ≤ 100 := by rw [List.length_append, len_sI, List.length_cons, len_wI, List.length_drop]; omega
      rw [hdk] at b2
      obtain ⟨R1, hR1⟩ : ∃ R, R = ((rl.drop (k + 1)).flatMap sI ++ ((wl.length : Int) :: wl.flatMap wI)) := ⟨_, rfl⟩
      rw [← hR1] at b2 hdl
      obtain ⟨oa, oc, rfl⟩ := ownsRow_val hown
      have hlow := fun r hr => (World.ownsRow.lt hown r hr).1
      unfold Owns at hown
      rw [hlk] at hown hlow b0
      obtain ⟨Y, hY⟩ : ∃ Y, Y = rl.take k := ⟨_, rfl⟩
      rw [← hY] at hown htk hlk
      have Hown := hide hown
      have Hlow := hide hlow
      have HB0 := hide b0
      have HB1 := hide b1
      have HB2 := hide b2
      have HLK := hide hlk
      have HT := hide htk
      have HR1 := hide hR1
      have HDL := hide hdl
      have c0 := HB0.out.1 2 _ rfl
      have z0 := HB0.out.2.2
      have mixed : Tryz.prog.follows Departure.mixedOrders = true := by kernel_rfl
      clear hown hlk htk hdk hlow b0 b1 b2 HX HO hY hR1 hst hdl
      go_upto_region 6 with fail
      refine wp_region_noPanic ?_
      go_region_law (first
        | (refine step_append_own rfl (.tmp 20) (.tmp 26) 25 rfl (w.heap.size + 3) 113 iS (.agg #[.int .i64 0, .int .i64 0]) 2 16 Tryz.underlying25 hS hs0 hs1 hs2 rfl (by decide) (.slice oa k oc) k (Y.flatMap encS) (by simp [Act.eval]) (World.ownsRow.alloc O6.out _) ⟨w6.heap.size, 0, none⟩ 1 1 [.int .i64 sk, .int .i64 st] (by simp [Act.eval]) rfl (cells_new w6 [.int .i64 sk, .int .i64 st] _) (by simp [Value.oneCell']) (by unfold maxLen; omega) (by omega) (by simp; omega) ?_
           intro v7 w7 hown7 hg7
           obtain ⟨a7, c7, rfl⟩ := ownsRow_val hown7
           have b07 := (b06.alloc _).grown hg7 (fun e => by have := Hlow.out _ e.symm; omega)
           have b17 := (b16.alloc _).grown hg7 (fun e => by have := Hlow.out _ e.symm; omega)
           have b27 := (L6.out.grown (World.grownBy_alloc w6 _ none) (by simp) (fun r e => by cases e)).grown hg7 (fun e => by have := Hlow.out _ e.symm; omega) (fun r e => by have := Hlow.out r e; omega)
           have bb7 : Below w.heap.size w w7 := Below.grown (bb6.alloc (by omega) _) hg7 (by simp; omega) (fun r e => by have := Hlow.out _ e; omega)
           have c07 := b07.1 2 _ rfl
           have f07 := b07.2.1
           have z07 := b07.2.2
           have z7w : w.heap.size + 3 ≤ w7.heap.size := (by have := hg7.size; simp at this; omega)
           have HN := hide (And.intro (b07.set 2 (.slice a7 (k + 1) c7) (by simp)) (And.intro (b17.setNe (p := ⟨w.heap.size, 2, none⟩) (by show w.heap.size + 1 ≠ w.heap.size; omega) (.slice a7 (k + 1) c7)) (And.intro (b27.set (b := w.heap.size) (i := 2) (u := .slice a7 (k + 1) c7) (by omega) (Nat.le_refl _)) (And.intro (own_other_ hown7 (grown_set w7 w.heap.size 2 (.slice a7 (k + 1) c7)) (fun r hr e => by have := (World.ownsRow.lt hown7 r hr).1; cases e; omega)) (bb7.setCell (p := ⟨w.heap.size, 2, none⟩) (Nat.le_refl _) (.slice a7 (k + 1) c7))))))
           clear hown7 hg7 b07 b17 b27 bb7)
        | (refine step_call1 rfl (.tmp 23) 95 _ rfl (.pointer (some ⟨w.heap.size + 1 + 1, 0, none⟩)) (by simp [Act.eval]) (enters_of Tryz.func95 (by kernel_rfl) rfl) (HN2.out _ st R1 L5.out (by have := HDL.out; omega)) ?_
           rintro e w6 ⟨rfl, r6, g6, z6⟩
           refine ⟨_, rfl, ?_⟩
           have b06 := b05.grown g6 (fun e => by have := Option.some.inj e; omega)
           have b16 := b15.grown g6 (fun e => by have := Option.some.inj e; omega)
           have bb6 : Below w.heap.size w w6 := Below.grown bb5 g6 (by omega) (fun r e => by cases e; omega)
           have own6 := own_other_ O5.out g6 (fun r hr e => by have := Hlow.out r hr; cases e; omega)
           have c06 := b06.1 2 _ rfl
           have z06 := b06.2.2
           have z6w : w.heap.size + 3 ≤ w6.heap.size := (by omega)
           have O6 := hide own6
           have L6 := hide r6
           clear g6 own6 r6 z6)
        | (refine step_call1 rfl (.tmp 21) 95 _ rfl (.pointer (some ⟨w.heap.size + 1 + 1, 0, none⟩)) (by simp [Act.eval, Act.put]) (enters_of Tryz.func95 (by kernel_rfl) rfl) (HN2.out _ sk (st :: R1) (HB2.out.same (w' := wr.drew) (Nat.le_refl _) rfl (fun _ _ => rfl)) (by have := HDL.out; simp only [List.length_cons]; omega)) ?_
           rintro e w5 ⟨rfl, r5, g5, z5⟩
           refine ⟨_, rfl, ?_⟩
           have b05 := (HB0.out.same (W := wr.drew) (Nat.le_refl _) rfl).grown g5 (fun e => by have := Option.some.inj e; omega)
           have b15 := (HB1.out.same (W := wr.drew) (Nat.le_refl _) rfl).grown g5 (fun e => by have := Option.some.inj e; omega)
           have bb5 : Below w.heap.size w w5 := Below.grown (by ((with_reducible repeat' first | exact .refl _ _ | exact hB | refine .alloc ?_ ?_ _ | refine .setCell ?_ ?_ _ | refine .drew ?_ | refine below_drewN ?_ _ | refine Below.trans ?_ (hB.mono ?_)) <;> first | omega | simp <;> omega)) g5 (by show w.heap.size ≤ wr.heap.size; omega) (fun r e => by cases e; omega)
           have own5 := own_other_ (ownsRow_below Hown.out (Below.refl _ _).drew) g5 (fun r hr e => by have := Hlow.out r hr; cases e; omega)
           have c05 := b05.1 2 _ rfl
           have z05 := b05.2.2
           have z5w : w.heap.size + 3 ≤ w5.heap.size := (by have : w5.heap.size = wr.heap.size := z5; omega)
           have O5 := hide own5
           have L5 := hide r5
           clear g5 own5 r5 z5))
      all_goals refine NoPanic.normal ?_
      all_goals clear c07 f07 z07 c06 z06 c05 z05 b05 b15 bb5 O5 L5 b06 b16 bb6 O6 L6 c0 z0
      all_goals go_wp2_with fail
      all_goals
        go_roundw
        case rel => exact ⟨k + 1, .slice a7 (k + 1) c7, by omega, by go_num, hide ⟨HN.out.1, HN.out.2.1, by rw [← HR1.out]; exact HN.out.2.2.1⟩, hide (by rw [HT.out]; exact Owns.app (by rw [HLK.out]; exact HN.out.2.2.2.1)), HN.out.2.2.2.2, by simp [World.setCell]; exact z7w⟩
        case measure => simp [intOf]; omega
    · obtain rfl : k = rl.length := by omega
      obtain ⟨b0, b1, b2⟩ := HX.out
      rw [List.drop_length, List.flatMap_nil, List.nil_append] at b2
      have hrow0 := HO.out
      rw [List.take_length] at hrow0
      obtain ⟨ra, rc, rfl⟩ := ownsRow_val hrow0
      have hwl : (wl.flatMap wI).length ≤ 100 := by rw [len_wI]; omega
      have HC2 := hide (count_any w.heap.size (w.heap.size + 1 + 1) (wl.length : Int) (wl.flatMap wI) wr b2 (by omega) (by omega))
      have HA3 := hide (And.intro b0 (And.intro b1 hrow0))
      have hrl := fun r hr => (World.ownsRow.lt hrow0 r hr).1
      have Hrlow := hide hrl
      clear b0 b1 b2 HX HO hrow0 hrl hwl
      go_wp2_with (go_at_call 96; (with_reducible refine HC2.out.mono ?_); rintro e w4 ⟨rfl, r4, g4, z4⟩)
      have HA4 := hide (And.intro (HA3.out.1.grown g4 (fun e => by have := Option.some.inj e; omega)) (And.intro (HA3.out.2.1.grown g4 (fun e => by have := Option.some.inj e; omega)) (And.intro (own_other_ HA3.out.2.2 g4 (fun r hr e => by have := Hrlow.out r hr; cases e; omega)) (hB.grown g4 (by omega) (fun r e => by cases e; omega)))))
      have R4 := hide r4
      have z4w : w.heap.size + 3 ≤ w4.heap.size := by omega
      clear r4 g4 HC2 HA3 z4
      go_loopw [32] (fun s32 wx => ∃ (k : Nat) (wv : Value), k ≤ wl.length ∧ s32 = .int .i64 k ∧ Hid (BxC wx w.heap.size [.int .i64 ti, .int .i64 tt, .slice ra rl.length rc, wv] ∧ BxC wx (w.heap.size + 1) [.bool false] ∧ LstB w.heap.size wx (w.heap.size + 1 + 1) ((wl.drop k).flatMap wI)) ∧ Hid (Owns 74 encW 3 wx (w.heap.size + 3) wv (wl.take k) ∧ Owns 113 encS 2 wx (w.heap.size + 3) (.slice ra rl.length rc) rl) ∧ Below w.heap.size w wx ∧ w.heap.size + 3 ≤ wx.heap.size) (fun s32 _ => wl.length - (intOf s32).toNat)
      case atStart => exact ⟨0, _, Nat.zero_le _, rfl, hide ⟨HA4.out.1, HA4.out.2.1, by rw [List.drop_zero]; exact R4.out⟩, hide ⟨Owns.nil _ _, HA4.out.2.2.1⟩, HA4.out.2.2.2, z4w⟩
      case round =>
        clear HA4 R4 z4w hB hzz
        obtain ⟨k, wv, hk, rfl, HX, HO, hB, hzz⟩ := hrel
        by_cases hlt : k < wl.length
        · obtain ⟨b0, b1, b2⟩ := HX.out
          obtain ⟨hown, hrow⟩ := HO.out
          have hlk : (wl.take k).length = k := by rw [List.length_take]; omega
          obtain ⟨xk, xv, xg, hst⟩ : ∃ a c d, wl[k] = ⟨a, c, d⟩ := ⟨_, _, _, rfl⟩
          have htk : wl.take (k + 1) = wl.take k ++ [⟨xk, xv, xg⟩] := by rw [List.take_succ_eq_append_getElem hlt, hst]
          have hdk : (wl.drop k).flatMap wI = xk :: xv :: gI xg :: (wl.drop (k + 1)).flatMap wI := by rw [List.drop_eq_getElem_cons hlt, List.flatMap_cons, hst]; rfl
          have hdl : ((wl.drop (k + 1)).flatMap wI).length ≤ 100 := by rw [len_wI, List.length_drop]; omega
          rw [hdk] at b2
          obtain ⟨R1, hR1⟩ : ∃ R, R = (wl.drop (k + 1)).flatMap wI := ⟨_, rfl⟩
          rw [← hR1] at b2 hdl
          obtain ⟨oa, oc, rfl⟩ := ownsRow_val hown
          have hlow := fun r hr => (World.ownsRow.lt hown r hr).1
          unfold Owns at hown hrow
          rw [hlk] at hown hlow b0
          obtain ⟨Y, hY⟩ : ∃ Y, Y = wl.take k := ⟨_, rfl⟩
          rw [← hY] at hown htk hlk
          have Hown := hide hown
          have Hrow := hide hrow
          have Hlow := hide hlow
          have HB0 := hide b0
          have HB1 := hide b1
          have HB2 := hide b2
          have HLK := hide hlk
          have HT := hide htk
          have HR1 := hide hR1
          have HDL := hide hdl
          have c0 := HB0.out.1 3 _ rfl
          have z0 := HB0.out.2.2
          have mixed : Tryz.prog.follows Departure.mixedOrders = true := by kernel_rfl
          clear hown hrow hlk htk hdk hlow b0 b1 b2 HX HO hY hR1 hst hdl
          go_upto_region 10 with fail
          refine wp_region_noPanic ?_
          go_region_law (first
        | (refine step_append_own rfl (.tmp 35) (.tmp 43) 26 rfl (w.heap.size + 3) 74 iW (.agg #[.int .i64 0, .int .i64 0, .bool false]) 3 24 Tryz.underlying26 hWi hw0 hw1 hw2 rfl (by decide) (.slice oa k oc) k (Y.flatMap encW) (by simp [Act.eval]) (World.ownsRow.alloc O7.out.1 _) ⟨w7.heap.size, 0, none⟩ 1 1 [.int .i64 xk, .int .i64 xv, .bool xg] (by simp [Act.eval]) rfl (cells_new w7 [.int .i64 xk, .int .i64 xv, .bool xg] _) (by simp [Value.oneCell']) (by unfold maxLen; omega) (by omega) (by simp; omega) ?_
           intro v8 w8 hown8 hg8
           obtain ⟨a8, c8, rfl⟩ := ownsRow_val hown8
           have b08 := (b07.alloc _).grown hg8 (fun e => by have := Hlow.out _ e.symm; omega)
           have b18 := (b17.alloc _).grown hg8 (fun e => by have := Hlow.out _ e.symm; omega)
           have b28 := (L7.out.grown (World.grownBy_alloc w7 _ none) (by simp) (fun r e => by cases e)).grown hg8 (fun e => by have := Hlow.out _ e.symm; omega) (fun r e => by have := Hlow.out r e; omega)
           have row8 := owns_apart (World.ownsRow.alloc O7.out.2 _) (World.ownsRow.alloc O7.out.1 _) (by decide) hg8
           have bb8 : Below w.heap.size w w8 := Below.grown (bb7.alloc (by omega) _) hg8 (by simp; omega) (fun r e => by have := Hlow.out _ e; omega)
           have c08 := b08.1 3 _ rfl
           have f08 := b08.2.1
           have z08 := b08.2.2
           have z8w : w.heap.size + 3 ≤ w8.heap.size := (by have := hg8.size; simp at this; omega)
           have HN := hide (And.intro (b08.set 3 (.slice a8 (k + 1) c8) (by simp)) (And.intro (b18.setNe (p := ⟨w.heap.size, 3, none⟩) (by show w.heap.size + 1 ≠ w.heap.size; omega) (.slice a8 (k + 1) c8)) (And.intro (b28.set (b := w.heap.size) (i := 3) (u := .slice a8 (k + 1) c8) (by omega) (Nat.le_refl _)) (And.intro (own_other_ hown8 (grown_set w8 w.heap.size 3 (.slice a8 (k + 1) c8)) (fun r hr e => by have := (World.ownsRow.lt hown8 r hr).1; cases e; omega)) (And.intro (own_other_ row8 (grown_set w8 w.heap.size 3 (.slice a8 (k + 1) c8)) (fun r hr e => by have := Hrlow.out r hr; cases e; omega)) (bb8.setCell (p := ⟨w.heap.size, 3, none⟩) (Nat.le_refl _) (.slice a8 (k + 1) c8)))))))
           clear hown8 hg8 b08 b18 b28 bb8 row8)
        | (refine step_call1 rfl (.tmp 36) 95 _ rfl (.pointer (some ⟨w.heap.size + 1 + 1, 0, none⟩)) (by simp [Act.eval, Act.put]) (enters_of Tryz.func95 (by kernel_rfl) rfl) (HN2.out _ xk (xv :: gI xg :: R1) (HB2.out.same (w' := wr.drew) (Nat.le_refl _) rfl (fun _ _ => rfl)) (by have := HDL.out; simp only [List.length_cons]; omega)) ?_
           rintro e w5 ⟨rfl, r5, g5, z5⟩
           refine ⟨_, rfl, ?_⟩
           have b05 := (HB0.out.same (W := wr.drew) (Nat.le_refl _) rfl).grown g5 (fun e => by have := Option.some.inj e; omega)
           have b15 := (HB1.out.same (W := wr.drew) (Nat.le_refl _) rfl).grown g5 (fun e => by have := Option.some.inj e; omega)
           have bb5 : Below w.heap.size w w5 := Below.grown (by ((with_reducible repeat' first | exact .refl _ _ | exact hB | refine .alloc ?_ ?_ _ | refine .setCell ?_ ?_ _ | refine .drew ?_ | refine below_drewN ?_ _ | refine Below.trans ?_ (hB.mono ?_)) <;> first | omega | simp <;> omega)) g5 (by show w.heap.size ≤ wr.heap.size; omega) (fun r e => by cases e; omega)
           have own5 := own_other_ (ownsRow_below Hown.out (Below.refl _ _).drew) g5 (fun r hr e => by have := Hlow.out r hr; cases e; omega)
           have row5 := own_other_ (ownsRow_below Hrow.out (Below.refl _ _).drew) g5 (fun r hr e => by have := Hrlow.out r hr; cases e; omega)
           have c05 := b05.1 3 _ rfl
           have z05 := b05.2.2
           have z5w : w.heap.size + 3 ≤ w5.heap.size := (by have : w5.heap.size = wr.heap.size := z5; omega)
           have O5 := hide (And.intro own5 row5)
           have L5 := hide r5
           clear g5 own5 row5 r5 z5)
        | (refine step_call1 rfl (.tmp 38) 95 _ rfl (.pointer (some ⟨w.heap.size + 1 + 1, 0, none⟩)) (by simp [Act.eval]) (enters_of Tryz.func95 (by kernel_rfl) rfl) (HN2.out _ xv (gI xg :: R1) L5.out (by have := HDL.out; simp only [List.length_cons]; omega)) ?_
           rintro e w6 ⟨rfl, r6, g6, z6⟩
           refine ⟨_, rfl, ?_⟩
           have b06 := b05.grown g6 (fun e => by have := Option.some.inj e; omega)
           have b16 := b15.grown g6 (fun e => by have := Option.some.inj e; omega)
           have bb6 : Below w.heap.size w w6 := Below.grown bb5 g6 (by omega) (fun r e => by cases e; omega)
           have own6 := own_other_ O5.out.1 g6 (fun r hr e => by have := Hlow.out r hr; cases e; omega)
           have row6 := own_other_ O5.out.2 g6 (fun r hr e => by have := Hrlow.out r hr; cases e; omega)
           have c06 := b06.1 3 _ rfl
           have z06 := b06.2.2
           have z6w : w.heap.size + 3 ≤ w6.heap.size := (by omega)
           have O6 := hide (And.intro own6 row6)
           have L6 := hide r6
           clear g6 own6 row6 r6 z6)
        | (refine step_call1 rfl (.tmp 40) 97 _ rfl (.pointer (some ⟨w.heap.size + 1 + 1, 0, none⟩)) (by simp [Act.eval]) (enters_of Tryz.func97 (by kernel_rfl) rfl) (flag_any w.heap.size (w.heap.size + 1 + 1) xg R1 w6 L6.out (by have := HDL.out; omega)) ?_
           rintro e w7 ⟨rfl, r7, g7, z7⟩
           refine ⟨_, rfl, ?_⟩
           have b07 := b06.grown g7 (fun e => by have := Option.some.inj e; omega)
           have b17 := b16.grown g7 (fun e => by have := Option.some.inj e; omega)
           have bb7 : Below w.heap.size w w7 := Below.grown bb6 g7 (by omega) (fun r e => by cases e; omega)
           have own7 := own_other_ O6.out.1 g7 (fun r hr e => by have := Hlow.out r hr; cases e; omega)
           have row7 := own_other_ O6.out.2 g7 (fun r hr e => by have := Hrlow.out r hr; cases e; omega)
           have c07 := b07.1 3 _ rfl
           have z07 := b07.2.2
           have z7w : w.heap.size + 3 ≤ w7.heap.size := (by omega)
           have O7 := hide (And.intro own7 row7)
           have L7 := hide r7
           clear g7 own7 row7 r7 z7))
          all_goals refine NoPanic.normal ?_
          all_goals clear c08 f08 z08 c07 z07 c06 z06 c05 z05 b05 b15 bb5 O5 L5 b06 b16 bb6 O6 L6 b07 b17 bb7 O7 L7 c0 z0
          all_goals go_wp2_with fail
          all_goals
            go_roundw
            case rel => exact ⟨k + 1, .slice a8 (k + 1) c8, by omega, by go_num, hide ⟨HN.out.1, HN.out.2.1, by rw [← HR1.out]; exact HN.out.2.2.1⟩, hide ⟨by rw [HT.out]; exact Owns.app (by rw [HLK.out]; exact HN.out.2.2.2.1), HN.out.2.2.2.2.1⟩, HN.out.2.2.2.2.2, by simp [World.setCell]; exact z8w⟩
            case measure => simp [intOf]; omega
        · obtain rfl : k = wl.length := by omega
          obtain ⟨b0, b1, b2⟩ := HX.out
          obtain ⟨hown, hrow⟩ := HO.out
          rw [List.drop_length, List.flatMap_nil] at b2
          rw [List.take_length] at hown
          obtain ⟨-, lv, b2x, hlv, -⟩ := b2
          obtain ⟨la, lc, rfl, -, -, -⟩ := hlv
          obtain ⟨oa, oc, rfl⟩ := ownsRow_val hown
          have hrd : TvRd wr (.slice ra rl.length rc) (.slice oa wl.length oc) ⟨ti, tt, rl, wl⟩ := ⟨Owns.row encS_length (0, 0) (by omega) hrow, Owns.row encW_length wr0 (by omega) hown⟩
          have HJ := hide (jformed_any (.slice ra rl.length rc) (.slice oa wl.length oc) ⟨ti, tt, rl, wl⟩ wr hrd hf h1)
          have HOW := hide (And.intro hown hrow)
          have Hlow := hide (fun r hr => (World.ownsRow.lt hown r hr).1)
          have HB0 := hide b0
          have HB1 := hide b1
          have HB2 := hide b2x
          have c0 := b0.1 0 _ rfl
          have c1 := b0.1 1 _ rfl
          have c2 := b0.1 2 _ rfl
          have c3 := b0.1 3 _ rfl
          have e0 := b2x.1 0 _ rfl
          have z0 := b0.2.2
          have z1 := b1.2.2
          have z2 := b2x.2.2
          have mixed : Tryz.prog.follows Departure.mixedOrders = true := by kernel_rfl
          clear b0 b1 b2x hown hrow hrd HX HO hf
          dsimp only [valT] at HJ
          go_upto_region 13 with (first
            | (go_at_call 19; (with_reducible refine HJ.out.mono ?_); rintro e w5 ⟨rfl, b5⟩)
            | (go_at_call 98; (with_reducible refine (jneed_any _).mono ?_); rintro e w6 ⟨rfl, rfl⟩))
          have hA5 := HB0.out.below z0 b5
          have hB5 := HB1.out.below z1 b5
          have hW5 := ownsRow_below HOW.out.1 b5
          have hS5 := ownsRow_below HOW.out.2 b5
          have bb5 : Below w.heap.size w w5 := hB.trans (b5.mono (by omega))
          have HA5 := hide hA5
          have HB5 := hide hB5
          have HF0 := hide (((((hA5.set 0 (.int .i64 ti) (by simp)).set 1 (.int .i64 tt) (by simp)).set 2 (.slice ra rl.length rc) (by simp)).set 3 (.slice oa wl.length oc) (by simp)).setNe (p := ⟨w.heap.size + 1, 0, none⟩) (by show w.heap.size ≠ w.heap.size + 1; omega) (.bool true))
          have HF1 := hide (((((hB5.setNe (p := ⟨w.heap.size, 0, none⟩) (by show w.heap.size + 1 ≠ w.heap.size; omega) (.int .i64 ti)).setNe (p := ⟨w.heap.size, 1, none⟩) (by show w.heap.size + 1 ≠ w.heap.size; omega) (.int .i64 tt)).setNe (p := ⟨w.heap.size, 2, none⟩) (by show w.heap.size + 1 ≠ w.heap.size; omega) (.slice ra rl.length rc)).setNe (p := ⟨w.heap.size, 3, none⟩) (by show w.heap.size + 1 ≠ w.heap.size; omega) (.slice oa wl.length oc)).set 0 (.bool true) (by simp))
          have HW5 := hide (own_other_ (own_other_ (own_other_ (own_other_ (own_other_ hW5 (grown_set _ w.heap.size 0 (.int .i64 ti)) (fun r hr e => by have := Hlow.out r hr; cases e; omega)) (grown_set _ w.heap.size 1 (.int .i64 tt)) (fun r hr e => by have := Hlow.out r hr; cases e; omega)) (grown_set _ w.heap.size 2 (.slice ra rl.length rc)) (fun r hr e => by have := Hlow.out r hr; cases e; omega)) (grown_set _ w.heap.size 3 (.slice oa wl.length oc)) (fun r hr e => by have := Hlow.out r hr; cases e; omega)) (grown_set _ (w.heap.size + 1) 0 (.bool true)) (fun r hr e => by have := Hlow.out r hr; cases e; omega))
          have HS5 := hide (own_other_ (own_other_ (own_other_ (own_other_ (own_other_ hS5 (grown_set _ w.heap.size 0 (.int .i64 ti)) (fun r hr e => by have := Hrlow.out r hr; cases e; omega)) (grown_set _ w.heap.size 1 (.int .i64 tt)) (fun r hr e => by have := Hrlow.out r hr; cases e; omega)) (grown_set _ w.heap.size 2 (.slice ra rl.length rc)) (fun r hr e => by have := Hrlow.out r hr; cases e; omega)) (grown_set _ w.heap.size 3 (.slice oa wl.length oc)) (fun r hr e => by have := Hrlow.out r hr; cases e; omega)) (grown_set _ (w.heap.size + 1) 0 (.bool true)) (fun r hr e => by have := Hrlow.out r hr; cases e; omega))
          have HBL := hide (((((bb5.setCell (p := ⟨w.heap.size, 0, none⟩) (Nat.le_refl _) (.int .i64 ti)).setCell (p := ⟨w.heap.size, 1, none⟩) (Nat.le_refl _) (.int .i64 tt)).setCell (p := ⟨w.heap.size, 2, none⟩) (Nat.le_refl _) (.slice ra rl.length rc)).setCell (p := ⟨w.heap.size, 3, none⟩) (Nat.le_refl _) (.slice oa wl.length oc)).setCell (p := ⟨w.heap.size + 1, 0, none⟩) (Nat.le_succ _) (.bool true))
          dsimp only [List.set] at HF0 HF1
          clear hW5 hS5 c0 c1 c2 c3 e0 z0 z1 z2
          have k0 := hA5.1 0 _ rfl
          have k1 := hA5.1 1 _ rfl
          have k2 := hA5.1 2 _ rfl
          have k3 := hA5.1 3 _ rfl
          have kf := hA5.2.1
          have kz := hA5.2.2
          have l0 := hB5.1 0 _ rfl
          have lf := hB5.2.1
          have lz := hB5.2.2
          clear hA5 hB5
          go_wp2_with fail
          clear k0 k1 k2 k3 kf kz l0 lf lz
          generalize World.setCell _ ⟨w.heap.size + 1, 0, none⟩ _ = Z at *
          have k0 := HF0.out.1 0 _ rfl
          have k1 := HF0.out.1 1 _ rfl
          have k2 := HF0.out.1 2 _ rfl
          have k3 := HF0.out.1 3 _ rfl
          have l0 := HF1.out.1 0 _ rfl
          refine leaves_cons (f := 94) (args := #[.pointer (some ⟨w.heap.size, 0, none⟩), .pointer (some ⟨w.heap.size + 1, 0, none⟩)]) (by simp) (by simp [go_sem]) ?_
          refine (read1_idle _ _ _).mono ?_
          rintro e u' w'' ⟨rfl, rfl, rfl⟩
          have HR := hide (And.intro (show TvTy w'' (.slice ra rl.length rc) (.slice oa wl.length oc) ⟨ti, tt, rl, wl⟩ ∧ LocT w.heap.size (.slice ra rl.length rc) (.slice oa wl.length oc) from ⟨⟨Owns.trw encS_length (0, 0) (by omega) HS5.out, Owns.trw encW_length wr0 (by omega) HW5.out⟩, fun q hq => by have := Hrlow.out q hq; omega, fun q hq => by have := Hlow.out q hq; omega⟩) HBL.out)
          simp [Leaves, settle, results, Tryz.results59, go_sem, k0, k1, k2, k3, l0]
          exact ⟨⟨_, _, ⟨rfl, rfl⟩, HR.out.1⟩, HR.out.2⟩
end Go.Proofs.YthkoaecafmhlcaaGreat
