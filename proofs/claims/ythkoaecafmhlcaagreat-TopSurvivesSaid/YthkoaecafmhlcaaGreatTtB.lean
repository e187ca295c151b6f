/- Package codec: Get (integers out of bytes that hold them). -/
import Derived.Test.YthkoaecafmhlcaaGreatTtA
import Derived.Test.YthkoaecafmhlcaaGreatJ00
import Derived.Defers
import Derived.Recover
import Derived.Laws.Pointers
import Derived.Deep.RegionHeld3
namespace Go.Proofs.YthkoaecafmhlcaaGreat
open Go.RowKit
theorem Get1_idle (p q : Addr) (w : World) : CallsD Tryz.prog 129 #[.pointer (some p), .pointer (some q)] .returning w fun e u' w' => e = .returned (.tuple #[]) ∧ u' = .returning ∧ w' = w := by
  refine callsD_of_wpS Tryz.func129 rfl fun c₀ cs hu => ?_
  apply wpS_seq
  apply wpS_region
  simp [wpOpsS, go_sem, recoverD, hu, Tryz.ntmps129, Exit.thenS]
  apply wpS_seq
  apply wpS_region
  simp [wpOpsS, go_sem, Exit.thenS, Array.replicate]
  refine wpS_cond (t := false) (by simp [Act.eval]) ?_
  simp only [Bool.false_eq_true, if_false]
  refine wpS_of_wp (wp_skip ?_)
  cases c₀
  simp_all [bodyPostS, results, Tryz.results129]
theorem infoIn0 : (Tryz.prog.info? 3).map (fun i => (i.zero, i.size, i.bytes)) = some (some (.int .i64 0), 1, 8) := by kernel_rfl
set_option maxHeartbeats 2000000 in
set_option maxRecDepth 100000 in
set_option maxHeartbeats 400000 in
theorem Get_any (v : Value) (l : List Int) (w : World) (h : BRow w v (encN l)) (hl : l.length ≤ 1000) (hs : Sml l) :
    Calls Tryz.prog 93 #[v] w fun e w' => (∃ ov, e = .returned (.tuple #[ov, .int .i64 0]) ∧ OwnIs w' w.heap.size ov l) ∧ Below w.heap.size w w' := by
  have hmf : ∀ (fn : Fn) (first cap : Array Value) (w : World), (Instr.makeFunc fn first cap).run Tryz.prog w = .ok (.func fn first cap) w := fun _ _ _ _ => rfl
  obtain ⟨a1, cap1, rfl, -⟩ := h.len
  go_enter_defers Tryz.func93, Tryz.ntmps93
  go_upto_region 3 with fail
  obtain ⟨W, hW⟩ : ∃ V, V = ((w.alloc (.cells #[.slice none 0 0] 55)).alloc (.cells #[.int .i64 0] 43)).alloc (.cells #[.slice a1 (encN l).length cap1, .int .i64 0] 188) := ⟨_, rfl⟩
  have hA : BxC W w.heap.size [.slice none 0 0] := by rw [hW]; exact ((BxC.made w [.slice none 0 0] _).alloc _).alloc _
  have hB : BxC W (w.heap.size + 1) [.int .i64 0] := by
    have h_ := (BxC.made (w.alloc (.cells #[.slice none 0 0] 55)) [.int .i64 0] 43).alloc (.cells #[.slice a1 (encN l).length cap1, .int .i64 0] 188)
    rw [World.size_alloc] at h_
    rw [hW]; exact h_
  have hR : BxC W (w.heap.size + 1 + 1) [.slice a1 (encN l).length cap1, .int .i64 ((0 : Nat) : Int)] := by
    have h_ := BxC.made ((w.alloc (.cells #[.slice none 0 0] 55)).alloc (.cells #[.int .i64 0] 43)) [.slice a1 (encN l).length cap1, .int .i64 ((0 : Nat) : Int)] 188
    rw [World.size_alloc, World.size_alloc] at h_
    rw [hW]; exact h_
  have hb0 : Below w.heap.size w W := by rw [hW]; ((with_reducible repeat' first | exact .refl _ _ | refine .alloc ?_ ?_ _ | refine .setCell ?_ ?_ _ | refine .drew ?_ | refine below_drewN ?_ _) <;> first | omega | simp <;> omega)
  have zW : W.heap.size = w.heap.size + 3 := by rw [hW]; simp
  rw [← hW]
  clear hW
  obtain ⟨i0, hi, hz0, hz1, hz2⟩ := info_parts infoIn0
  have hlow : ∀ q, (Value.slice a1 (encN l).length cap1).ownBlock = some q → q ≠ w.heap.size + 1 + 1 := by
    intro q hq
    obtain ⟨b, off, cap', hb', hlt0, -⟩ := BRow.at_ h (i := 0) (by
      obtain ⟨c, r, hcr, -⟩ := vint_head (zig l.length) (putL l)
      have := congrArg List.length hcr
      unfold encN putI
      rw [this]; simp)
    cases hb'; cases hq
    show b ≠ _
    omega
  have hel : (encN l).length ≤ 1000000 := by
    have h1 := putL_len l hs
    have h2 := putI_len (n := (l.length : Int)) (by omega)
    unfold encN
    rw [List.length_append]; omega
  have HC := hide (fun (V : World) (p : Nat) (n : Int) (rest : List Int) (hV : Below w.heap.size w V) (hb : BxC V (w.heap.size + 1 + 1) [.slice a1 (encN l).length cap1, .int .i64 (p : Int)]) (hd : (encN l).drop p = putI n ++ rest) (hn : 0 ≤ n ∧ n ≤ 2000000000000000000) => rint_any (w.heap.size + 1 + 1) (.slice a1 (encN l).length cap1) (encN l) rest p n V hb (h.below (Nat.le_refl _) hV) hlow hel hd hn)
  obtain ⟨m, hm⟩ : ∃ m, m = (encN l).length := ⟨_, rfl⟩
  have hcall := HC.out W 0 (l.length : Int) (putL l) hb0 hR rfl (by omega)
  rw [← hm] at HC hcall ⊢
  have HM := hide hm
  clear h hlow hel hm hR
  have HCC := hide hcall
  clear hcall
  go_upto_region 4 with (go_at_call 130; (with_reducible refine HCC.out.mono ?_); rintro e w1 ⟨rfl, r1, g1, z1⟩)
  have mixed : Tryz.prog.follows Departure.mixedOrders = true := by kernel_rfl
  have q1 : decide ((0 : Int) ≤ (l.length : Int)) = true := decide_eq_true (by omega)
  have q2 : decide ((l.length : Int) ≤ 1000) = true := decide_eq_true (by omega)
  obtain ⟨P0, hP0⟩ : ∃ p, p = (putI (l.length : Int)).length := ⟨_, rfl⟩
  have r1' : BxC w1 (w.heap.size + 1 + 1) [.slice a1 m cap1, .int .i64 ((P0 + (putL (l.take 0)).length : Nat) : Int)] := by
    have : ((P0 + (putL (l.take 0)).length : Nat) : Int) = ((0 : Nat) : Int) + ((putI (l.length : Int)).length : Int) := by rw [hP0]; simp [putL]
    rw [this]; exact r1
  have hbA : Below w.heap.size w w1 := hb0.grown g1 (by omega) (fun r e => by cases e; omega)
  have HA1 := hA.grown g1 (fun e => by have := Option.some.inj e; omega)
  have HB1 := hB.grown g1 (fun e => by have := Option.some.inj e; omega)
  have HP0 := hide hP0
  have z1w : w1.heap.size = w.heap.size + 3 := by omega
  clear r1 g1 hP0 hA hB hb0 z1 zW HCC
  clear W
  go_wp2_with (go_at_call 131; (with_reducible refine (need_any _).mono ?_); rintro e w2 ⟨rfl, rfl⟩)
  go_loopw [20] (fun s20 wx => ∃ (k : Nat) (ov : Value), k ≤ l.length ∧ s20 = .int .i64 k ∧ Hid (BxC wx w.heap.size [ov] ∧ BxC wx (w.heap.size + 1) [.int .i64 0] ∧ BxC wx (w.heap.size + 1 + 1) [.slice a1 m cap1, .int .i64 ((P0 + (putL (l.take k)).length : Nat) : Int)]) ∧ Hid (OwnIs wx (w.heap.size + 3) ov (l.take k)) ∧ Below w.heap.size w wx ∧ w.heap.size + 3 ≤ wx.heap.size) (fun s20 _ => l.length - (intOf s20).toNat)
  case atStart => exact ⟨0, _, Nat.zero_le _, rfl, hide ⟨HA1, HB1, r1'⟩, hide (OwnIs.nil _ _), hbA, by omega⟩
  case round =>
    clear r1' hbA HA1 HB1 z1w q1 q2
    obtain ⟨k, ov, hk, rfl, HB, HO, hB, hzz⟩ := hrel
    by_cases hlt : k < l.length
    · obtain ⟨b0, b1, b2⟩ := HB.out
      have hdk : (encN l).drop (P0 + (putL (l.take k)).length) = putI (l.getD k 0) ++ putL (l.drop (k + 1)) := by
        have e : encN l = (putI l.length ++ putL (l.take k)) ++ (putI (l.getD k 0) ++ putL (l.drop (k + 1))) := by
          unfold encN
          have : l = l.take k ++ (l.getD k 0 :: l.drop (k + 1)) := by
            rw [getD_lt0 hlt, ← List.drop_eq_getElem_cons hlt, List.take_append_drop]
          rw [List.append_assoc]
          congr 1
          conv => lhs; rw [this]
          simp [putL]
        rw [e, HP0.out, ← List.length_append, List.drop_left]
      have hx := hs _ (show l.getD k 0 ∈ l by rw [getD_lt0 hlt]; exact List.getElem_mem hlt)
      have HCk := hide (fun (V : World) (hV : Below w.heap.size w V) (hb : BxC V (w.heap.size + 1 + 1) [.slice a1 m cap1, .int .i64 ((P0 + (putL (l.take k)).length : Nat) : Int)]) => HC.out V _ (l.getD k 0) _ hV hb hdk hx)
      have hpk : ((P0 + (putL (l.take (k + 1))).length : Nat) : Int) = ((P0 + (putL (l.take k)).length : Nat) : Int) + ((putI (l.getD k 0)).length : Int) := by rw [putL_take l hlt, List.length_append]; omega
      have HPk := hide hpk
      have hlk : (l.take k).length = k := by rw [List.length_take]; omega
      have htk : l.take (k + 1) = l.take k ++ [l.getD k 0] := by rw [List.take_succ_eq_append_getElem hlt, getD_lt0 hlt]
      have hown := HO.out
      have HT := hide htk
      obtain ⟨oa, oc, rfl⟩ := ownsRow_val hown
      have hlow := fun r hr => (World.ownsRow.lt hown r hr).1
      unfold OwnIs at hown
      rw [hlk] at hown hlow b0
      have Hown := hide hown
      have Hlow := hide hlow
      have HB0 := hide b0
      have HB1 := hide b1
      have HB2 := hide b2
      have HLK := hide hlk
      obtain ⟨pk, hpk2⟩ : ∃ q, q = (P0 + (putL (l.take k)).length) := ⟨_, rfl⟩
      rw [← hpk2] at HCk HPk HB2
      obtain ⟨Y, hY⟩ : ∃ Y, Y = l.take k := ⟨_, rfl⟩
      rw [← hY] at Hown HT HLK
      obtain ⟨x, hxx⟩ : ∃ x, x = l.getD k 0 := ⟨_, rfl⟩
      rw [← hxx] at HCk HPk HT
      have hYl := HLK.out
      have c0 := HB0.out.1 0 _ rfl
      have z0 := HB0.out.2.2
      clear hdk hpk hlk htk hown hlow b0 b1 b2 HB HO hpk2 hY hxx hYl hx
      go_upto_region 7 with fail
      refine wp_region_noPanic ?_
      go_region_law (first
        | (refine step_append_own rfl (.tmp 22) (.tmp 25) 55 rfl (w.heap.size + 3) 3 i0 (.int .i64 0) 1 8 Tryz.underlying55 hi hz0 hz1 hz2 rfl (by decide) (.slice oa k oc) k (encI Y) (by simp [Act.eval]) (World.ownsRow.alloc O5.out _) ⟨w5.heap.size, 0, none⟩ 1 1 [.int .i64 x] (by simp [Act.eval]) rfl (cells_new w5 [.int .i64 x] _) (by simp [Value.oneCell']) (by unfold maxLen; omega) (by omega) (by simp; omega) ?_
           intro v6 w6 hown6 hg6
           obtain ⟨a6, c6, rfl⟩ := ownsRow_val hown6
           have b06 := (b05.alloc _).grown hg6 (fun e => by have := Hlow.out _ e.symm; omega)
           have b16 := (b15.alloc _).grown hg6 (fun e => by have := Hlow.out _ e.symm; omega)
           have b26 := (R5.out.alloc _).grown hg6 (fun e => by have := Hlow.out _ e.symm; omega)
           have bb6 : Below w.heap.size w w6 := Below.grown (bb5.alloc (by omega) _) hg6 (by simp; omega) (fun r e => by have := Hlow.out _ e; omega)
           have c06 := b06.1 0 _ rfl
           have f06 := b06.2.1
           have z06 := b06.2.2
           have z6w : w.heap.size + 3 ≤ w6.heap.size := (by have := hg6.size; simp at this; omega)
           have HN := hide (And.intro (b06.set 0 (.slice a6 (k + 1) c6) (by simp)) (And.intro (b16.setNe (p := ⟨w.heap.size, 0, none⟩) (by simp) (.slice a6 (k + 1) c6)) (And.intro (b26.setNe (p := ⟨w.heap.size, 0, none⟩) (by show w.heap.size + 1 + 1 ≠ w.heap.size; omega) (.slice a6 (k + 1) c6)) (And.intro (own_other_ hown6 (grown_set w6 w.heap.size 0 (.slice a6 (k + 1) c6)) (fun r hr e => by have := (World.ownsRow.lt hown6 r hr).1; cases e; omega)) (bb6.setCell (p := ⟨w.heap.size, 0, none⟩) (Nat.le_refl _) (.slice a6 (k + 1) c6))))))
           clear hown6 hg6 b06 b16 b26 bb6)
        | (refine step_call1 rfl (.tmp 23) 130 _ rfl (.pointer (some ⟨w.heap.size + 1 + 1, 0, none⟩)) (by simp [Act.eval, Act.put]) (enters_of Tryz.func130 (by kernel_rfl) rfl) (HCk.out _ (by ((with_reducible repeat' first | exact .refl _ _ | exact hB | refine .alloc ?_ ?_ _ | refine .setCell ?_ ?_ _ | refine .drew ?_ | refine below_drewN ?_ _ | refine Below.trans ?_ (hB.mono ?_)) <;> first | omega | simp <;> omega)) (HB2.out.same (Nat.le_refl _) rfl)) ?_
           rintro e w5 ⟨rfl, r5, g5, z5⟩
           refine ⟨_, rfl, ?_⟩
           have b05 := (HB0.out.same (W := wr.drew) (Nat.le_refl _) rfl).grown g5 (fun e => by have := Option.some.inj e; omega)
           have b15 := (HB1.out.same (W := wr.drew) (Nat.le_refl _) rfl).grown g5 (fun e => by have := Option.some.inj e; omega)
           have bb5 : Below w.heap.size w w5 := Below.grown (by ((with_reducible repeat' first | exact .refl _ _ | exact hB | refine .alloc ?_ ?_ _ | refine .setCell ?_ ?_ _ | refine .drew ?_ | refine below_drewN ?_ _ | refine Below.trans ?_ (hB.mono ?_)) <;> first | omega | simp <;> omega)) g5 (by show w.heap.size ≤ wr.heap.size; omega) (fun r e => by cases e; omega)
           have own5 := own_other_ (ownsRow_below Hown.out (Below.refl _ _).drew) g5 (fun r hr e => by have := Hlow.out r hr; cases e; omega)
           have c05 := b05.1 0 _ rfl
           have z05 := b05.2.2
           have z5w : w.heap.size + 3 ≤ w5.heap.size := (by have : w5.heap.size = wr.heap.size := z5; omega)
           have O5 := hide own5
           have R5 := hide r5
           clear g5 own5 r5 z5))
      all_goals refine NoPanic.normal ?_
      all_goals clear c06 f06 z06 c05 z05 b05 b15 bb5 O5 R5 c0 z0
      all_goals go_wp2_with fail
      all_goals
        go_roundw
        case rel => exact ⟨k + 1, .slice a6 (k + 1) c6, by omega, by go_num, hide ⟨HN.out.1, HN.out.2.1, by rw [HPk.out]; exact HN.out.2.2.1⟩, hide (by rw [HT.out]; exact OwnIs.app (by rw [HLK.out]; exact HN.out.2.2.2.1)), HN.out.2.2.2.2, by simp [World.setCell]; exact z6w⟩
        case measure => simp [intOf]; omega
    · obtain rfl : k = l.length := by omega
      obtain ⟨b0, b1, b2⟩ := HB.out
      have hm2 : P0 + (putL (l.take l.length)).length = m := by rw [HM.out, HP0.out, List.take_length]; unfold encN; rw [List.length_append]
      rw [hm2] at b2
      have hown := HO.out
      rw [List.take_length] at hown
      obtain ⟨oa, oc, rfl⟩ := ownsRow_val hown
      have Hown := hide hown
      have hlow := fun r hr => (World.ownsRow.lt hown r hr).1
      have Hlow := hide hlow
      have HB0 := hide b0
      have HB1 := hide b1
      have c0 := b0.1 0 _ rfl
      have f0 := b0.2.1
      have z0 := b0.2.2
      have c1 := b1.1 0 _ rfl
      have f1 := b1.2.1
      have z1 := b1.2.2
      have c2 := b2.1 0 _ rfl
      have c3 := b2.1 1 _ rfl
      have f2 := b2.2.1
      have z2 := b2.2.2
      clear b0 b1 b2 hm2 hown hlow HB HO
      go_wp2_with (go_at_call 131; (with_reducible refine (need_any _).mono ?_); rintro e w2 ⟨rfl, rfl⟩)
      have hF0 := ((HB0.out.set 0 (.slice oa l.length oc) (by simp)).setNe (p := ⟨w.heap.size + 1, 0, none⟩) (by simp) (.int .i64 0))
      have hF1 := ((HB1.out.setNe (p := ⟨w.heap.size, 0, none⟩) (by simp) (.slice oa l.length oc)).set 0 (.int .i64 0) (by simp))
      have hO := own_other_ (own_other_ Hown.out (grown_set wr w.heap.size 0 (.slice oa l.length oc)) (fun r hr e => by have := Hlow.out r hr; cases e; omega)) (grown_set _ (w.heap.size + 1) 0 (.int .i64 0)) (fun r hr e => by have := Hlow.out r hr; cases e; omega)
      have hBl : Below w.heap.size w _ := (hB.setCell (p := ⟨w.heap.size, 0, none⟩) (Nat.le_refl _) (.slice oa l.length oc)).setCell (p := ⟨w.heap.size + 1, 0, none⟩) (Nat.le_succ _) (.int .i64 0)
      dsimp only [List.set] at hF0 hF1
      clear c0 f0 z0 c1 f1 z1 c2 c3 f2 z2
      generalize World.setCell _ ⟨w.heap.size + 1, 0, none⟩ _ = Z at *
      have c0 := hF0.1 0 _ rfl
      have c1 := hF1.1 0 _ rfl
      refine leaves_cons (f := 129) (args := #[.pointer (some ⟨w.heap.size, 0, none⟩), .pointer (some ⟨w.heap.size + 1, 0, none⟩)]) (by simp) (by simp [go_sem]) ?_
      refine (Get1_idle _ _ _).mono ?_
      rintro e u' w'' ⟨rfl, rfl, rfl⟩
      have HR := hide (And.intro (OwnIs.mono hO (show w.heap.size ≤ w.heap.size + 3 by omega)) hBl)
      clear hO hBl
      simp [Leaves, settle, results, Tryz.results93, go_sem, c0, c1]
      exact HR.out
end Go.Proofs.YthkoaecafmhlcaaGreat
