
/- The reference of cert: Choose. -/
import Derived.Test.YtlmcoollkmhanaaGreatCtM
import Derived.Test.YtlmcoollkmhanaaGreatApq
import Derived.Deep.DeepCutAuto
namespace Go.Proofs.YtlmcoollkmhanaaGreat
open Go.RowKit

theorem run_append_src {P : Program} (w : World) (base : Nat) (t ty e : TypeId) (i : TypeInfo) (z : Value) (size bytes : Nat) (ht : P.underlying t = some (.slice e)) (hi : P.info? e = some i) (hz : i.zero = some z)
  (hsize : i.size = size) (hby : i.bytes = bytes) (hzs : z.cells.size = size) (hsz : 0 < size)
  (v : Value) (n : Nat) (xs : List Value) (hown : w.ownsRow base e size v n xs) (vx : Value) (m : Nat) (news : List Value) (hr : SrcRow w vx m size news) (h1 : ∀ u ∈ news, u.oneCell' = true)
  (h63 : n + m ≤ maxLen) (hbytes : (n + m) * bytes ≤ 140737488355328) (hbase : base ≤ w.heap.size) :
  ∃ v' w', (Builtin.append_ #[t, t] ty #[v, vx]).run P w = .ok v' w' ∧ w'.ownsRow base e size v' (n + m) (xs ++ news) ∧ w.grownBy w' v.ownBlock ∧ (v'.ownBlock = v.ownBlock ∨ v'.ownBlock = some w.heap.size) := by
 obtain ⟨A, c, rfl, hl, hA, hc⟩ := hr
 rcases A with _ | ad
 ·obtain rfl := hA rfl
  have hn : news = [] := List.eq_nil_of_length_eq_zero (by simpa using hl)
  subst hn
  exact ⟨v, w, run_append_src0 w base t ty e i size ht hi v n xs hown c, by simpa using hown, World.grownBy.refl w _, .inl rfl⟩
 ·obtain ⟨v', w', hrun, h2, h3, _, h5⟩ := run_append_own_at (P := P) w base t ty e i z size bytes ht hi hz hsize hby hzs hsz v n xs hown ad m c news hl (hc ad rfl) h1 h63 hbytes hbase
  exact ⟨v', w', hrun, h2, h3, h5⟩
theorem step_append_src {P : Program} {ops : Array Oper} {o : Oper} {a : Act} {w : World} {K : Act → World → Prop} {Q : Exit → Act → World → Prop} {E : Prop}
  (hg : o.guard = none) (s x : Operand) (t : TypeId) (hop : o.op = Op.call { callee := Callee.builtin Builtin.append, args := #[s, x], argTypes := #[t, t] })
  (base : Nat) (e : TypeId) (i : TypeInfo) (z : Value) (size bytes : Nat) (h1 : P.underlying t = some (.slice e)) (h2 : P.info? e = some i) (h3 : i.zero = some z) (h4 : i.size = size) (h5 : i.bytes = bytes) (h6 : z.cells.size = size) (h7 : 0 < size)
  (v : Value) (n : Nat) (olds : List Value) (hs : a.eval s = v) (hown : w.ownsRow base e size v n olds)
  (vx : Value) (m : Nat) (news : List Value) (hx : a.eval x = vx) (hr : SrcRow w vx m size news) (h1c : ∀ u ∈ news, u.oneCell' = true)
  (b1 : n + m ≤ maxLen) (b2 : (n + m) * bytes ≤ 140737488355328) (b3 : base ≤ w.heap.size)
  (hK : ∀ v' w', w'.ownsRow base e size v' (n + m) (olds ++ news) → w.grownBy w' v.ownBlock → (v'.ownBlock = v.ownBlock ∨ v'.ownBlock = some w.heap.size) → K (a.put o.dst v') w') :
  if Region.wanted o (yielded ops a.tmps) = true then Oper.wp P o a w K Q else E := by
 have hw : Region.wanted o (yielded ops a.tmps) = true := by simp [Region.wanted, hg]
 rw [if_pos hw]
 obtain ⟨v', w', hrun, r1, r2, r3⟩ := run_append_src (P := P) w base t o.type e i z size bytes h1 h2 h3 h4 h5 h6 h7 v n olds hown vx m news hr h1c b1 b2 b3
 unfold Oper.wp
 simp [execOp, hop, resolve, invoke, builtin, hs, hx, hrun, Result.andThen]
 exact hK v' w' r1 r2 r3
theorem own_one {w : World} {base q : Nat} {T : TypeId} {u : Value} (hh : w.heap[q]? = some (.cells #[u] T)) (h : base ≤ q) : w.ownsRow base T 1 (.slice (some ⟨q, 0, none⟩) 1 1) 1 [u] :=
 ⟨rfl, .inr ⟨q, 1, #[u], rfl, h, hh, Nat.le_refl _, by unfold maxLen; omega, rfl, rfl⟩⟩
theorem src_one {w : World} {q : Nat} {u : Value} (h : w.cell? ⟨q, 0, none⟩ = some u) : SrcRow w (.slice (some ⟨q, 0, none⟩) 1 1) 1 1 [u] := by
 refine ⟨_, _, rfl, rfl, (fun e => by cases e), fun ad had j v hj => ?_⟩
 cases had
 match j, hj with
 | 0, hj => simp at hj; subst hj; simpa [Addr.add] using h
theorem lens_chR (l : List Int) (k : Nat) (m : Nat) (h : m < (chR l k).length) : (lsAt (chR l k) m).length = k := by
 rw [lsAt_lt _ _ h]
 exact ((mem_chR l k _).1 (List.getElem_mem h)).2
set_option maxRecDepth 100000 in
set_option maxHeartbeats 2000000 in
theorem R31Choose_any : ∀ (k : Nat) (l : List Int) (v : Value) (w : World), IsRow w v l → l.length ≤ 16 → k ≤ 16 →
  Calls Tryz.prog 41 #[v, .int .i64 k] w fun e w' => ∃ ov, e = .returned ov ∧ OwnLr w' w.heap.size ov (chR l k) ∧ Below w.heap.size w w'
 | 0, l, v, w, hv, hl, hk => by
  rw [chR_zero]
  clear hv
  go_enter Tryz.func41, Tryz.ntmps41
  go_wp2_with fail
  go_ret
  refine ⟨_, rfl, ⟨[(.slice (some ⟨w.heap.size, 0, none⟩) 0 0, [])], rfl, own_one (q := w.heap.size + 1) (by have h := World.alloc_heap_new (w.alloc (.cells #[] 3)) (.cells #[.slice (some ⟨w.heap.size, 0, none⟩) 0 0] 25); rwa [World.size_alloc] at h) (by omega), fun x hx => ?_⟩, (by ((with_reducible repeat' first | exact .refl _ _ | refine .alloc ?_ ?_ _ | refine .setCell ?_ ?_ _ | refine .drew ?_ | refine below_drewN ?_ _) <;> first | omega | simp <;> omega))⟩
  rw [List.mem_singleton] at hx
  subst hx
  refine ⟨isrow_empty _ _ _ (by omega), fun q hq => ?_⟩
  have e : w.heap.size = q := by simpa [Value.ownBlock] using hq
  subst e
  exact ⟨Nat.le_refl _, _, _, (Below.heap_alloc _ _ _ (by simp)).trans (World.alloc_heap_new _ _)⟩
 | k + 1, l, v, w, hv, hl, hk => by
  obtain ⟨i1, hj0, hy0, hy1, hy2⟩ := info_parts infoInt
  obtain ⟨i0, hi0, iz0, iz1, iz2⟩ := info_parts infoLs
  have HV := hide (fun (W : World) (hW : Below w.heap.size w W) => hv.below (Nat.le_refl _) hW)
  obtain ⟨a, cap, rfl, q1, q2, q3⟩ := id hv
  obtain ⟨K, hK⟩ : ∃ K : Int, K = ((k + 1 : Nat) : Int) := ⟨_, rfl⟩
  rw [← hK]
  have d1 : (K == 0) = false := by rw [beq_eq_false_iff_ne]; omega
  have wk : IntKind.i64.wrap (K - 1) = (k : Int) := by rw [hK, show (((k + 1 : Nat) : Int) - 1) = (k : Int) by omega]; exact IntWalk.i64_in _ (by omega)
  rw [← chTo_all]
  have HI := hide (fun (l' : List Int) (v' : Value) (w' : World) (h1 : IsRow w' v' l') (h2 : l'.length ≤ 16) => R31Choose_any k l' v' w' h1 h2 (by omega))
  clear hv hK q3
  go_enter Tryz.func41, Tryz.ntmps41
  go_wp2_with fail
  go_loopw [5, 6] (fun s5 s6 wx => ∃ i : Nat, i ≤ l.length ∧ s6 = .int .i64 i ∧ OwnLr wx w.heap.size s5 (chTo l k i) ∧ Below w.heap.size w wx) (fun _ s6 _ => l.length - (intOf s6).toNat)
  case atStart => exact ⟨0, Nat.zero_le _, rfl, OwnLr.nil _ _, Below.refl _ _⟩
  case round =>
   obtain ⟨i, hi, rfl, hown, hB⟩ := hrel
   by_cases hlt : i < l.length
   ·obtain ⟨a', cap', e', -, -, g3⟩ := HV.out _ hB
    obtain ⟨b, off, rfl, h4, h5⟩ := g3 i hlt
    cases e'
    clear g3
    have wi : IntKind.i64.wrap ((i : Int) + 1) = ((i + 1 : Nat) : Int) := by rw [show (i : Int) + 1 = ((i + 1 : Nat) : Int) by omega]; exact IntWalk.i64_in _ (by omega)
    have hdl : (l.drop (i + 1)).length ≤ 16 := by rw [List.length_drop]; omega
    have Hown := hide hown
    have hzw := hB.size
    have HB := hide hB
    clear hown hB h5
    go_upto_region 7 with fail
    go_cut [7] (fun s7 wx => OwnLr wx wr.heap.size s7 (chR (l.drop (i + 1)) k) ∧ Below wr.heap.size wr wx)
    case first =>
     by_cases hc : cap = i + 1
     ·have hl1 : l.length = i + 1 := by omega
      have hd : l.drop (i + 1) = [] := List.drop_eq_nil_of_le (by omega)
      have e0 : l.length - (i + 1) = 0 := by omega
      have E0 := hide e0
      have Hd := hide hd
      have hc2 : cap ≤ i + 1 := by omega
      clear hl1 e0 hd
      subst hc
      go_wp2_with (go_at_call 41; (with_reducible refine (HI.out [] _ _ (by first | exact isrow_empty _ _ _ (by omega) | (rw [E0.out]; exact isrow_empty _ _ _ (by omega))) (by simp)).mono ?_); rintro e w1 ⟨rv, rfl, ho1, k1⟩)
      go_meet
      exact ⟨by rw [Hd.out]; exact ho1, k1⟩
     ·go_wp2_with (go_at_call 41; (with_reducible refine (HI.out (l.drop (i + 1)) _ _ (isrow_drop (HV.out _ HB.out) (i + 1) (by omega)) hdl).mono ?_); rintro e w1 ⟨rv, rfl, ho1, k1⟩)
      go_meet
      exact ⟨ho1, k1⟩
    case rest =>
     obtain ⟨hr1, k1⟩ := hcut
     obtain ⟨rb, rc, hrv, -, -⟩ := hr1.row.len
     subst hrv
     obtain ⟨w1, hw1⟩ : ∃ W : World, W = wc := ⟨_, rfl⟩
     subst hw1
     obtain ⟨wo, hwo⟩ : ∃ W : World, W = wr := ⟨_, rfl⟩
     subst hwo
     have hz1 := k1.size
     have B1 : Below w.heap.size w w1 := HB.out.trans (k1.mono hzw)
     obtain ⟨RL, hRL⟩ : ∃ R, R = chR (l.drop (i + 1)) k := ⟨_, rfl⟩
     rw [← hRL] at hr1 ⊢
     have hRlen : RL.length ≤ 65536 := by
      rw [hRL]
      have h1 := chR_len_le (l.drop (i + 1)) k
      have h2 : 2 ^ (l.drop (i + 1)).length ≤ 2 ^ 16 := Nat.pow_le_pow_right (by omega) hdl
      omega
     have hRin : ∀ m, m < RL.length → (lsAt RL m).length ≤ 16 := fun m hm => by
      rw [hRL] at hm ⊢
      rw [lens_chR _ _ _ hm]
      omega
     have hcl : (chTo l k i).length ≤ 65536 := by
      have h1 := chTo_len l k i hi
      have h2 := chR_len_le l (k + 1)
      have h3 : 2 ^ l.length ≤ 2 ^ 16 := Nat.pow_le_pow_right (by omega) hl
      omega
     have hst : chTo l k (i + 1) = chTo l k i ++ RL.map (fun x => iAt l i :: x) := by rw [hRL]; rfl
     have Hst := hide hst
     have Hr1 := hide hr1
     have HRin := hide hRin
     have HB1 := hide B1
     have Hk1 := hide k1
     have ho0 := Hown.out.below (Nat.le_refl _) k1
     have hlt0 := Hown.out.lt
     clear hst hr1 hRin hRL B1 k1
     go_wp2_with fail
     go_loopw [5, 8] (fun s5 s8 wx => ∃ m : Nat, m ≤ RL.length ∧ s8 = .int .i64 m ∧ OwnLr wx w.heap.size s5 (chTo l k i ++ (RL.take m).map (fun x => iAt l i :: x)) ∧ Below w.heap.size w wx ∧ w1.heap.size ≤ wx.heap.size ∧ Hid ((∀ q, wo.heap.size ≤ q → q < w1.heap.size → wx.heap[q]? = w1.heap[q]?) ∧ ∀ q, s5.ownBlock = some q → q < wo.heap.size ∨ w1.heap.size ≤ q)) (fun _ s8 _ => RL.length - (intOf s8).toNat)
     case atStart => exact ⟨0, Nat.zero_le _, rfl, by simpa using ho0, HB1.out, Nat.le_refl _, hide ⟨fun _ _ _ => rfl, fun q hq => .inl (hlt0 q hq).2⟩⟩
     case round =>
      obtain ⟨m, hm, rfl, hown, hB, hz, HK⟩ := hrel
      by_cases hml : m < RL.length
      ·have hrow : OwnLr wr wo.heap.size (.slice rb RL.length rc) RL := Hr1.out.same hz HK.out.1
       obtain ⟨b2, o2, cap2, u, e2, g1, g2, r1⟩ := hrow.row.at_ hml
       cases e2
       obtain ⟨a', cap', e', -, -, g3⟩ := HV.out _ hB
       cases e'
       obtain ⟨b', off', e', h4', h5⟩ := g3 i hlt
       cases e'
       have hxl := HRin.out m hml
       have hsn : RL.take (m + 1) = RL.take m ++ [lsAt RL m] := lsAt_snoc RL m hml
       have Hsn := hide hsn
       obtain ⟨X, hX⟩ : ∃ X, X = lsAt RL m := ⟨_, rfl⟩
       rw [← hX] at r1 hxl Hsn
       obtain ⟨x, hx⟩ : ∃ x, x = iAt l i := ⟨_, rfl⟩
       rw [← hx] at h5
       have Hx := hide hx
       obtain ⟨ua, uc, rfl, -, -, -⟩ := id r1
       have Hr1u := hide r1
       obtain ⟨xs, hx1, hx2, hx3⟩ := hown
       have hxn : xs.length ≤ 131072 := by
        have h := congrArg List.length hx1
        rw [List.length_map, List.length_append, List.length_map, List.length_take] at h
        omega
       obtain ⟨oa, ocap, hov, -, -⟩ := hx2.val
       subst hov
       have Hlow := hide (World.ownsRow.lt hx2)
       have Hx1 := hide hx1
       have Hx2 := hide hx2
       have Hx3 := hide hx3
       have HB := hide hB
       have I1 : (0 : Int) ≤ (i : Int) := by omega
       have I2 : (i : Int) < (l.length : Int) := by omega
       have I3 : (0 : Int) ≤ (m : Int) := by omega
       have I4 : (m : Int) < (RL.length : Int) := by omega
       have hzw2 := hB.size
       clear hsn hX hx hrow r1 hx1 hx2 hx3 hB g3 ho0
       go_upto_region 11 with fail
       go_region_law (first | (refine step_append_src rfl (.tmp 37) (.tmp 41) 25 rfl wr.heap.size 3 i1 (.int .i64 0) 1 8 Tryz.underlying25 hj0 hy0 hy1 hy2 rfl (by decide) _ 1 [.int .i64 x] (by simp [Act.eval]) (own_one (heap_d1 wr _) (Nat.le_refl _)) (.slice ua X.length uc) X.length (encI X) (by simp [Act.eval]) (src_is (Hr1u.out.below (Nat.le_refl _) (by ((with_reducible repeat' first | exact .refl _ _ | refine .alloc ?_ ?_ _ | refine .setCell ?_ ?_ _ | refine .drew ?_ | refine below_drewN ?_ _) <;> first | omega | simp <;> omega)))) (encI_one X) (by unfold maxLen; omega) (by omega) (by simp) ?_; intro v4 w4 hown4 hg4 hb4; have B4 : Below wr.heap.size wr w4 := Below.grown (by ((with_reducible repeat' first | exact .refl _ _ | refine .alloc ?_ ?_ _ | refine .setCell ?_ ?_ _ | refine .drew ?_ | refine below_drewN ?_ _) <;> first | omega | simp <;> omega)) hg4 (by simp) (fun r h => by simp [Value.ownBlock] at h; omega); have hz4 := B4.size; obtain ⟨va, vc, hv4⟩ := ownsRow_val hown4; subst hv4; have Hown4 := hide hown4; clear hown4) | (refine step_append_src rfl (.tmp 32) (.tmp 43) 79 rfl w.heap.size 25 i0 (.slice none 0 0) 1 24 Tryz.underlying79 hi0 iz0 iz1 iz2 rfl (by decide) _ xs.length (xs.flatMap encV) (by simp [Act.eval]) (World.ownsRow.alloc (ownsRow_below Hx2.out (B4.mono (Nat.le_refl _))) _) (.slice (some ⟨w4.heap.size, 0, none⟩) 1 1) 1 [.slice va (1 + X.length) vc] (by simp [Act.eval]) (src_one (by simp [go_sem])) (by simp [Value.oneCell']) (by unfold maxLen; omega) (by omega) (by simp; omega) ?_; intro v5 w5 hown5 hg5 hb5))
       all_goals go_wp2_with fail
       all_goals
        have hz5 := hg5.size
        simp only [World.size_alloc] at hz5
        have hown4 : OwnIs w4 wr.heap.size (.slice va (1 + X.length) vc) (x :: X) := by
         have h := Hown4.out
         unfold OwnIs
         rw [List.length_cons, Nat.add_comm X.length 1]
         exact h
        have hx4 : NewI w4 w.heap.size (.slice va (1 + X.length) vc) (x :: X) := (NewI.of_own hown4).mono hzw2
        have h4x : ∀ y, y ∈ xs → NewI w4 w.heap.size y.1 y.2 := fun y hy => (Hx3.out y hy).below (Nat.le_refl _) B4
        have hpush : OwnLr w5 w.heap.size v5 (xs.map (·.2) ++ [x :: X]) := OwnLr.push (x := (.slice va (1 + X.length) vc, x :: X)) (Hx2.out.below (Nat.le_refl _) B4) h4x hx4 hg5 hown5
        have hB5 : Below w.heap.size w w5 := Below.grown (by ((with_reducible repeat' first | exact .refl _ _ | exact B4 | exact HB.out | refine .alloc ?_ ?_ _ | refine .setCell ?_ ?_ _ | refine .drew ?_ | refine below_drewN ?_ _ | refine Below.trans ?_ (B4.mono ?_) | refine Below.trans ?_ (HB.out.mono ?_)) <;> first | omega | simp <;> omega)) hg5 (by simp; omega) (fun r h => (Hlow.out r h).1)
        have hkp : ∀ q, wo.heap.size ≤ q → q < w1.heap.size → w5.heap[q]? = w1.heap[q]? := fun q h1 h2 => by
         have hne : ¬ some q = (Value.slice oa xs.length ocap).ownBlock := fun e => by
          rcases HK.out.2 q e.symm with h | h <;> omega
         exact (((hg5.block q (by simp; omega) hne).trans (Below.heap_alloc _ _ _ (by omega))).trans (B4.block q (by omega))).trans (HK.out.1 q h1 h2)
        have hbl : ∀ q, v5.ownBlock = some q → q < wo.heap.size ∨ w1.heap.size ≤ q := fun q hq => by
         rcases hb5 with h | h
         ·exact HK.out.2 q (by rw [← h]; exact hq)
         ·rw [hq] at h
          have : q = (w4.alloc (.cells #[.slice va (1 + X.length) vc] 25)).heap.size := by simpa using h
          simp only [World.size_alloc] at this
          omega
        have hrel : chTo l k i ++ (RL.take (m + 1)).map (fun x => iAt l i :: x) = xs.map (·.2) ++ [x :: X] := by
         rw [Hx1.out, Hsn.out, List.map_append, Hx.out, List.append_assoc]; rfl
        go_roundw
        case rel => exact ⟨m + 1, by omega, by go_num, by rw [hrel]; exact hpush, hB5, by omega, hide ⟨hkp, hbl⟩⟩
        case measure => simp [intOf]; omega
      ·obtain rfl : m = RL.length := by omega
       rw [List.take_length, ← Hst.out] at hown
       go_wp2_with fail
       go_roundw
       case rel => exact ⟨i + 1, by omega, by go_num, hown, hB⟩
       case measure => simp [intOf]; omega
   ·obtain rfl : i = l.length := by omega
    go_wp2_with fail
    go_ret
    exact ⟨_, rfl, hown, hB⟩
end Go.Proofs.YtlmcoollkmhanaaGreat
