/- Package outlier: smallest, Least; the reference's least, check, Least. -/
import Derived.Test.YtodkmbjhdckjiaaDoorOuD
namespace Go.Proofs.YtodkmbjhdckjiaaDoor
open Go.RowKit
attribute [local go_sem ↓] run_max_mx run_min_mn
theorem Ones_q (x : Nat) (w : World) (hx : x < 4294967296) :
    Calls Tryd.prog 26 #[.int .u32 x] w fun e w' => e = .returned (.int .i64 (pc x)) ∧ ∃ m, w' = w.drewN m :=
  (Ones_any x w hx).mono fun _ _ ⟨he, hw⟩ => ⟨he, 1, by rw [hw]; rfl⟩
theorem zeroU : ∀ w, (zeroValue 51).run Tryd.prog w = .ok (.int .u32 0) w := fun _ => by kernel_rfl
set_option maxRecDepth 100000 in
set_option maxHeartbeats 2000000 in
theorem smallest_any (v : Value) (l : List Iv) (w : World) (hv : IvRow w v l) (hl : ouOk l = true) :
    Calls Tryd.prog 27 #[v] w fun e w' => ∃ ov S, e = .returned ov ∧ OwnUs w' w.heap.size ov S ∧ SmSpec l l.length S ∧ Below w.heap.size w w' := by
  obtain ⟨i0, hi, hz0, hz1, hz2⟩ := info_parts infoSet
  have hv0 := hv
  obtain ⟨a, cap, rfl, h1, h2, h3⟩ := hv
  have hn := ((ouOk_iff l).1 hl).1
  have hn1 := hn.1
  have hn2 := hn.2
  clear hn hl
  go_enter Tryd.func27, Tryd.ntmps27
  go_wp2
  go_loopw [3, 10] (fun out i wr => ∃ (k : Nat) (S : List Nat), k ≤ l.length ∧ i = .int .i64 k ∧ OwnUs wr w.heap.size out S ∧ Hid (SmSpec l k S) ∧ Below w.heap.size w wr) (fun _ i _ => l.length - (intOf i).toNat)
  case atStart => exact ⟨0, [], Nat.zero_le _, rfl, OwnUs.nil _ _, hide (SmSpec.start l), Below.refl _ _⟩
  case round =>
    obtain ⟨k, S, hk, rfl, hown, HS, hB⟩ := hrel
    by_cases hlt : k < l.length
    · obtain ⟨b, off, rfl, h4, h5, h6⟩ := h3 k hlt
      have h5' := (hB.cell (p := ⟨b, off + k * 2, none⟩) h4).trans h5
      have h6' := (hB.cell (p := ⟨b, off + k * 2 + 1, none⟩) h4).trans h6
      clear h5 h6 h3
      have hz := hB.size
      have hrow := hv0.below (Nat.le_refl _) (hB.alloc (Nat.le_trans hz (Nat.le_refl _)) (.cells #[.int .i64 (iLo l k), .int .i64 (iHi l k)] 42))
      have hlen := HS.out.pos.1
      have hm := msk_lt32 (l := l) (iLo l k) hn2
      have hm2 : msk l (iLo l k) < 4294967296 := by omega
      rcases Nat.eq_zero_or_pos S.length with hS | hS
      · have hS0 : S = [] := List.eq_nil_of_length_eq_zero hS
        have hk0 : k = 0 := by
          rcases Nat.eq_zero_or_pos k with h0 | h0
          · exact h0
          · have := HS.out.pos.2 h0; omega
        subst hS0
        obtain ⟨oa, ocap, rfl, hc1, hc2⟩ := hown.val
        have Hn := hide (SmSpec.one (l := l) (k := k) hn2 (fun i hi => by omega))
        have hlow := World.ownsRow.lt hown
        clear hk0
        go_wp2_with fail
        refine (without_any _ l _ _ hrow hn2).mono ?_
        rintro e w1 ⟨rfl, b1⟩
        have hown1 := (hown.below (Nat.le_refl _) ((Below.refl wr.heap.size wr).alloc (Nat.le_refl _) (.cells #[.int .i64 (iLo l k), .int .i64 (iHi l k)] 42))).below (Nat.le_refl _) b1
        have B1 : Below w.heap.size w w1 := (by ((repeat' (first | exact Below.refl _ _ | exact hB | exact b1 | refine Below.alloc ?_ ?_ _ | refine Below.setCell ?_ ?_ _ | refine Below.drew ?_ | refine below_drewN ?_ _ | refine Below.trans ?_ (hB.mono ?_) | refine Below.trans ?_ (b1.mono ?_))) <;> (first | omega | (simp; done) | (simp; omega))))
        have z1 := b1.size
        simp only [World.size_alloc] at z1
        have hlow1 := World.ownsRow.lt hown1
        generalize hs : msk l (iLo l k) = s at *
        have Hs := hide hs
        clear hs hrow hown h5' h6'
        unfold OwnUs at hown1
        simp only [List.length_nil] at *
        go_wp2_with (at_builtin; refine wpList_append_own _ rfl _ _ 52 rfl w.heap.size 51 i0 (.int .u32 0) 1 4 Tryd.underlying52 hi hz0 hz1 hz2 rfl (by decide) _ 0 (encU []) rfl (World.ownsRow.alloc hown1 _) ⟨w1.heap.size, 0, none⟩ 1 1 [.int .u32 s] rfl rfl (cells_new w1 [.int .u32 s] _) (by simp [Value.oneCell']) (by unfold maxLen; omega) (by omega) (by simp; omega) ?_; intro v3 w3 hown3 hg3 _)
        go_roundw
        case rel => exact ⟨k + 1, [s], by omega, by go_num, OwnUs.app (c := []) hown3, Hn, ((B1.alloc (by omega) _).grown hg3 (by simp; omega) (fun r h => (hlow1 r h).1))⟩
        case measure => simp [intOf]; omega
      · obtain ⟨g, cap, rfl, g1, g2, g3, g4, g5⟩ := hown.form hS
        have Ha := hide (SmSpec.skip HS.out hS)
        have Hb := hide (SmSpec.same HS.out hS)
        have Hc := hide (SmSpec.more HS.out hn2 hS)
        have Hd := hide (fun h => SmSpec.one hn2 (k := k) (l := l) (fun i hi => Nat.lt_of_lt_of_le h ((HS.out.head hS).1 i hi)))
        have Hme := hide (fun h => (((HS.out.head hS).2 (msk l (iLo l k))).1 h).elim fun _ hi => hi.2.2)
        have htlt := HS.out.2.2.2.1 _ (getD_mem hS)
        have hcap2 : S.length ≤ cap := g3
        go_wp2_with fail
        refine (without_any _ l _ _ hrow hn2).mono ?_
        rintro e w1 ⟨rfl, b1⟩
        have b2 := ((Below.refl wr.heap.size wr).alloc (Nat.le_refl _) (.cells #[.int .i64 (iLo l k), .int .i64 (iHi l k)] 42))
        have hown1 : OwnUs w1 w.heap.size _ S := (hown.below (Nat.le_refl _) b2).below (Nat.le_refl _) b1
        have B1 : Below w.heap.size w w1 := (by ((repeat' (first | exact Below.refl _ _ | exact hB | exact b1 | refine Below.alloc ?_ ?_ _ | refine Below.setCell ?_ ?_ _ | refine Below.drew ?_ | refine below_drewN ?_ _ | refine Below.trans ?_ (hB.mono ?_) | refine Below.trans ?_ (b1.mono ?_))) <;> (first | omega | (simp; done) | (simp; omega))))
        have z1 := b1.size
        simp only [World.size_alloc] at z1
        have hlow1 := World.ownsRow.lt hown1
        have hg0 : w1.cell? ⟨g, 0, none⟩ = some (.int .u32 (S.getD 0 0 : Nat)) := ((b1.cell (p := ⟨g, 0, none⟩) (by simp; omega)).trans (b2.cell (p := ⟨g, 0, none⟩) g2)).trans (g5 0 hS)
        generalize hs : msk l (iLo l k) = s at *
        generalize ht : S.getD 0 0 = t at *
        have Hs := hide hs
        have Ht := hide ht
        have hps := bitsTo_length s 32
        have hpt := bitsTo_length t 32
        have hps : pc s ≤ 32 := hps
        have hpt : pc t ≤ 32 := hpt
        have ht2 : t < 4294967296 := by omega
        have hS1 : 0 < S.length := hS
        clear hs ht hrow h5' h6' g5 htlt
        have hD : IntKind.i64.wrap ((pc s : Int) - (pc t : Int)) = (pc s : Int) - (pc t : Int) := IntWalk.i64_in _ (by omega)
        by_cases hc1 : pc t < pc s
        · have q1 : decide ((pc t : Int) < pc s) = true := by simpa using hc1
          have q2 : decide ((0 : Int) < pc s - pc t) = true := by simpa using hc1
          go_wp2_with fail
          go_quiet (first | (go_at_call 26; with_reducible exact Calls.quiet_of (Ones_q s _ hm2)) | (go_at_call 26; with_reducible exact Calls.quiet_of (Ones_q t _ ht2)))
          go_wp2_with fail
          go_roundw
          case rel => exact ⟨k + 1, S, by omega, by go_num, hown1.below (Nat.le_refl _) (below_drewN (Below.refl _ _) _), Ha.out hc1, (by ((repeat' (first | exact Below.refl _ _ | exact B1 | refine Below.alloc ?_ ?_ _ | refine Below.setCell ?_ ?_ _ | refine Below.drew ?_ | refine below_drewN ?_ _ | refine Below.trans ?_ (B1.mono ?_))) <;> (first | omega | (simp; done) | (simp; omega))))⟩
          case measure => simp [intOf]; omega
        · have q1 : decide ((0 : Int) < pc s - pc t) = false := by rw [decide_eq_false_iff_not]; omega
          have q3 : ¬ ((pc s : Int) - pc t > 0) := by omega
          by_cases hin : s ∈ S
          · have hpe : pc s = pc t := Hme.out hin
            have hdi := hide (decide_eq_true hin)
            have Hin := hide hin
            have q2 : decide ((pc s : Int) - pc t < 0) = false := by rw [decide_eq_false_iff_not]; omega
            clear hin
            go_wp2_with fail
            go_quiet (first | (go_at_call 26; with_reducible exact Calls.quiet_of (Ones_q s _ hm2)) | (go_at_call 26; with_reducible exact Calls.quiet_of (Ones_q t _ ht2)))
            go_wp2_with (go_at_call 38; refine (ContainsU_any _ _ S s _ (hown1.below (Nat.le_refl _) (below_drewN (Below.refl _ _) _))).mono ?_; rintro e w2 ⟨rfl, rfl⟩; rw [hdi.out])
            go_roundw
            case rel => exact ⟨k + 1, S, by omega, by go_num, hown1.below (Nat.le_refl _) (below_drewN (Below.refl _ _) _), Hb.out Hin.out, (by ((repeat' (first | exact Below.refl _ _ | exact B1 | refine Below.alloc ?_ ?_ _ | refine Below.setCell ?_ ?_ _ | refine Below.drew ?_ | refine below_drewN ?_ _ | refine Below.trans ?_ (B1.mono ?_))) <;> (first | omega | (simp; done) | (simp; omega))))⟩
            case measure => simp [intOf]; omega
          · have hdi := hide (decide_eq_false hin)
            have Hin := hide hin
            clear hin
            by_cases hpe : pc s = pc t
            · have q2 : decide ((pc s : Int) - pc t < 0) = false := by rw [decide_eq_false_iff_not]; omega
              have q4 : ¬ ((pc s : Int) - pc t < 0) := by omega
              go_wp2_with fail
              go_quiet (first | (go_at_call 26; with_reducible exact Calls.quiet_of (Ones_q s _ hm2)) | (go_at_call 26; with_reducible exact Calls.quiet_of (Ones_q t _ ht2)))
              rename_i nq
              have hown2 := hown1.below (Nat.le_refl _) (below_drewN (Below.refl w1.heap.size w1) nq)
              unfold OwnUs at hown2
              go_wp2_with (first | (go_at_call 38; refine (ContainsU_any _ _ S s _ (hown1.below (Nat.le_refl _) (below_drewN (Below.refl _ _) _))).mono ?_; rintro e w2 ⟨rfl, rfl⟩; rw [hdi.out]) | (at_builtin; refine wpList_append_own _ rfl _ _ 52 rfl w.heap.size 51 i0 (.int .u32 0) 1 4 Tryd.underlying52 hi hz0 hz1 hz2 rfl (by decide) _ S.length (encU S) rfl (World.ownsRow.alloc hown2 _) ⟨w1.heap.size, 0, none⟩ 1 1 [.int .u32 s] rfl rfl (cells_new _ [.int .u32 s] _) (by simp [Value.oneCell']) (by unfold maxLen; omega) (by omega) (by simp; omega) ?_; intro v3 w3 hown3 hg3 _))
              go_roundw
              case rel => exact ⟨k + 1, S ++ [s], by omega, by go_num, OwnUs.app hown3, Hc.out hpe Hin.out, (((below_drewN B1 _).alloc (by simp; omega) _).grown hg3 (by simp; omega) (fun r h => (hlow1 r h).1))⟩
              case measure => simp [intOf]; omega
            · have hlt2 : pc s < pc t := by omega
              have q2 : decide ((pc s : Int) - pc t < 0) = true := by rw [decide_eq_true_iff]; omega
              have q4 : ((pc s : Int) - pc t < 0) := by omega
              clear hpe
              go_wp2_with fail
              go_quiet (first | (go_at_call 26; with_reducible exact Calls.quiet_of (Ones_q s _ hm2)) | (go_at_call 26; with_reducible exact Calls.quiet_of (Ones_q t _ ht2)))
              rename_i nq
              have hown2 : OwnUs (w1.drewN nq) w.heap.size _ S := hown1.below (Nat.le_refl _) (below_drewN (Below.refl w1.heap.size w1) nq)
              have hown2' := hown2
              unfold OwnUs at hown2'
              obtain ⟨ys, hy, _⟩ := ownsRow_setCells (List.replicate S.length (.int .u32 0)) 0 _ _ hown2'
              have hcut := ownsRow_cut hy (Nat.zero_le S.length)
              have hBc : Below w.heap.size w ((w1.drewN nq).setCells g 0 (List.replicate S.length (.int .u32 0))) := below_setCells g1 _ _ _ _ (below_drewN B1 _)
              have hclr : ∀ ty, (Builtin.clear_ #[52] ty #[.slice (some ⟨g, 0, none⟩) S.length cap]).run Tryd.prog (w1.drewN nq) = .ok (.tuple #[]) ((w1.drewN nq).setCells g 0 (List.replicate S.length (.int .u32 0))) := fun ty =>
                Lib.run_clear_slice (w1.drewN nq) 52 51 ty (.int .u32 0) Tryd.underlying52 zeroU rfl rfl g 0 S.length cap hS1
                  (fun j hj => by rw [Nat.zero_add, (World.ownsRow.cellAt hown2' j (by omega)).trans (encU_at S j hj)]; rfl) (fun j _ => World.ownsRow.frozenAt hown2' _)
              generalize (w1.drewN nq).setCells g 0 (List.replicate S.length (.int .u32 0)) = Wc at *
              have hlowc := World.ownsRow.lt hcut
              have zc := hBc.size
              simp only [Nat.zero_mul, List.take_zero] at hcut
              clear hown2' hy
              go_wp2_with (first | (go_at_call 38; refine (ContainsU_any _ _ S s _ hown2).mono ?_; rintro e w2 ⟨rfl, rfl⟩; rw [hdi.out]) | (at_builtin; refine wpList_append_own _ rfl _ _ 52 rfl w.heap.size 51 i0 (.int .u32 0) 1 4 Tryd.underlying52 hi hz0 hz1 hz2 rfl (by decide) _ 0 [] rfl (World.ownsRow.alloc hcut _) ⟨Wc.heap.size, 0, none⟩ 1 1 [.int .u32 s] rfl rfl (cells_new _ [.int .u32 s] _) (by simp [Value.oneCell']) (by unfold maxLen; omega) (by omega) (by simp; omega) ?_; intro v3 w3 hown3 hg3 _))
              go_roundw
              case rel => exact ⟨k + 1, [s], by omega, by go_num, OwnUs.app (c := []) hown3, Hd.out hlt2, ((hBc.alloc (by omega) _).grown hg3 (by first | omega | (simp; omega)) (fun r h => (hlowc r h).1))⟩
              case measure => simp [intOf]; omega
    · obtain rfl : k = l.length := by omega
      go_wp2
      go_ret
      exact ⟨_, S, rfl, hown, HS.out, hB⟩
set_option maxRecDepth 100000 in
set_option maxHeartbeats 1000000 in
theorem Least_any (v : Value) (l : List Iv) (w : World) (hv : IvRow w v l) :
    Calls Tryd.prog 10 #[v] w fun e w' => e = .returned (.tuple #[.int .i64 (lstV l), .int .i64 (ouEr l)]) ∧ Below w.heap.size w w' := by
  unfold lstV
  cases hok : ouOk l with
  | true =>
    have he : ouEr l = 0 := by have := ((ouOk_iff l).1 hok).1; simp [ouEr, hok]; omega
    have hpos := ((ouOk_iff l).1 hok).1
    simp only [he, if_true]
    have Hok := hide hok
    clear hok
    go_enter Tryd.func10, Tryd.ntmps10
    go_wp2_with (go_at_call 25; refine (Ocheck_any _ l _ hv).mono ?_; rintro e w1 ⟨rfl, b1⟩; rw [he])
    refine (smallest_any _ l _ (hv.below (Nat.le_refl _) b1) Hok.out).mono ?_
    rintro e w2 ⟨ov, S, rfl, ho, hS, b2⟩
    have z1 := b1.size
    have hd := hS.done Hok.out
    have hp := hS.pos.2 (by omega)
    obtain ⟨g, cap, rfl, g1, g2, g3, g4, g5⟩ := ho.form hp
    have g6 := g5 0 hp
    have hm := getD_mem hp
    have hlt := hS.2.2.2.1 _ hm
    obtain ⟨i, _, e1, e2⟩ := (hd _).1 hm
    have e3 : (pc (S.getD 0 0) : Int) = lst l := by rw [e1, pc_msk _ hpos.2]; exact e2
    generalize S.getD 0 0 = t at *
    have E3 := hide e3
    clear e3 hd hm g5 e1 e2 he hS
    have ht2 : t < 4294967296 := by omega
    go_wp2_with fail
    refine (Ones_any t _ ht2).mono ?_
    rintro e w3 ⟨rfl, rfl⟩
    go_wp2_with fail
    refine bodyPost_ret (v := .tuple #[.int .i64 (lst l), .int .i64 0]) (by simp [results, Tryd.results10, go_sem]; exact E3.out) rfl ⟨rfl, ?_⟩
    ((repeat' (first | exact Below.refl _ _ | exact b1 | exact b2 | refine Below.alloc ?_ ?_ _ | refine Below.setCell ?_ ?_ _ | refine Below.drew ?_ | refine below_drewN ?_ _ | refine Below.trans ?_ (b1.mono ?_) | refine Below.trans ?_ (b2.mono ?_))) <;> (first | omega | (simp; done) | (simp; omega)))
  | false =>
    have hne : ouEr l ≠ 0 := by unfold ouEr; split <;> simp [hok]
    have hne' : (ouEr l != 0) = true := by simpa using hne
    simp only [Bool.false_eq_true, if_false]
    clear hne
    go_enter Tryd.func10, Tryd.ntmps10
    go_wp2_with (go_at_call 25; refine (Ocheck_any _ l _ hv).mono ?_; rintro e w1 ⟨rfl, b1⟩)
    refine bodyPost_ret (v := .tuple #[.int .i64 0, .int .i64 (ouEr l)]) (by simp [results, Tryd.results10, go_sem]) rfl ⟨rfl, ?_⟩
    ((repeat' (first | exact Below.refl _ _ | exact b1 | refine Below.alloc ?_ ?_ _ | refine Below.setCell ?_ ?_ _ | refine Below.drew ?_ | refine below_drewN ?_ _ | refine Below.trans ?_ (b1.mono ?_))) <;> (first | omega | (simp; done) | (simp; omega)))
set_option maxRecDepth 100000 in
set_option maxHeartbeats 400000 in
theorem Rcheck16_any (v : Value) (l : List Iv) (w : World) (hv : IvRow w v l) :
    Calls Tryd.prog 28 #[v] w fun e w' => e = .returned (.int .i64 (ouEr l)) ∧ Below w.heap.size w w' := by
  obtain ⟨a, cap, rfl, h1, h2, h3⟩ := hv
  by_cases hbig : 16 < l.length
  · have he : ouEr l = 2 := by simp [ouEr, hbig]
    rw [he]
    go_enter Tryd.func28, Tryd.ntmps28
    go_wp2_with fail
    go_ret
    exact ⟨rfl, Below.refl _ _⟩
  · by_cases h0 : l.length = 0
    · have he : ouEr l = 1 := by simp [ouEr, ouOk, h0]
      rw [he]
      have h0' : ((l.length : Int) == 0) = true := by rw [beq_iff_eq]; omega
      clear h0 he
      go_enter Tryd.func28, Tryd.ntmps28
      go_wp2_with fail
      go_ret
      exact ⟨rfl, Below.refl _ _⟩
    · have h0' : ((l.length : Int) == 0) = false := by rw [beq_eq_false_iff_ne]; omega
      have he : ouEr l = if allV l l.length = true then 0 else 1 := by simp [ouEr, ouOk, hbig, show 1 ≤ l.length ∧ l.length ≤ 16 by omega]
      have He := hide he
      clear he
      go_enter Tryd.func28, Tryd.ntmps28
      go_wp2_with fail
      go_loopw [3] (fun i wr => ∃ k : Nat, k ≤ l.length ∧ i = .int .i64 k ∧ Hid (allV l k = true) ∧ Below w.heap.size w wr) (fun i _ => l.length - (intOf i).toNat)
      case atStart => exact ⟨0, Nat.zero_le _, rfl, hide rfl, Below.refl _ _⟩
      case round =>
        obtain ⟨k, hk, rfl, Hall, hB⟩ := hrel
        by_cases hlt : k < l.length
        · obtain ⟨b, off, rfl, h4, h5, h6⟩ := h3 k hlt
          have h5' := (hB.cell (p := ⟨b, off + k * 2, none⟩) h4).trans h5
          have h6' := (hB.cell (p := ⟨b, off + k * 2 + 1, none⟩) h4).trans h6
          clear h5 h6 h3
          have hz := hB.size
          cases hval : validB (iLo l k) (iHi l k) with
          | true =>
            have Hn := hide (show allV l (k + 1) = true by simp [allV, Hall.out, hval])
            go_wp2_with (go_at_call 24; refine (RValid_any _ _ _).mono ?_; rintro e w' ⟨rfl, rfl⟩; rw [hval])
            go_roundw
            case rel => exact ⟨k + 1, by omega, by go_num, Hn, (by ((repeat' (first | exact Below.refl _ _ | exact hB | refine Below.alloc ?_ ?_ _ | refine Below.setCell ?_ ?_ _ | refine Below.drew ?_ | refine below_drewN ?_ _ | refine Below.trans ?_ (hB.mono ?_))) <;> (first | omega | (simp; done) | (simp; omega))))⟩
            case measure => simp [intOf]; omega
          | false =>
            go_wp2_with (go_at_call 24; refine (RValid_any _ _ _).mono ?_; rintro e w' ⟨rfl, rfl⟩; rw [hval])
            go_ret
            exact ⟨ret_int (by rw [He.out, allV_false l k hval _ hlt]; simp), (by ((repeat' (first | exact Below.refl _ _ | exact hB | refine Below.alloc ?_ ?_ _ | refine Below.setCell ?_ ?_ _ | refine Below.drew ?_ | refine below_drewN ?_ _ | refine Below.trans ?_ (hB.mono ?_))) <;> (first | omega | (simp; done) | (simp; omega))))⟩
        · obtain rfl : k = l.length := by omega
          go_wp2
          go_ret
          exact ⟨ret_int (by rw [He.out, Hall.out]; simp), hB⟩
set_option maxRecDepth 100000 in
set_option maxHeartbeats 400000 in
theorem Rleast_any (v : Value) (l : List Iv) (w : World) (hv : IvRow w v l) (hl : l.length ≤ 16) :
    Calls Tryd.prog 29 #[v] w fun e w' => e = .returned (.int .i64 (lst l)) ∧ Below w.heap.size w w' := by
  have hv0 := hv
  obtain ⟨a, cap, rfl, h1, h2, h3⟩ := hv
  go_enter Tryd.func29, Tryd.ntmps29
  go_wp2_with fail
  go_loopw [3, 4] (fun o i wr => ∃ k : Nat, k ≤ l.length ∧ i = .int .i64 k ∧ o = .int .i64 (lstTo l k) ∧ Below w.heap.size w wr) (fun _ i _ => l.length - (intOf i).toNat)
  case atStart => exact ⟨0, Nat.zero_le _, rfl, rfl, Below.refl _ _⟩
  case round =>
    obtain ⟨k, hk, rfl, rfl, hB⟩ := hrel
    by_cases hlt : k < l.length
    · obtain ⟨b, off, rfl, h4, h5, h6⟩ := h3 k hlt
      have h5' := (hB.cell (p := ⟨b, off + k * 2, none⟩) h4).trans h5
      clear h5 h6 h3
      have hz := hB.size
      have Hn := hide (show lstTo l (k + 1) = mn (lstTo l k) (woL l (iLo l k)).length by rfl)
      go_wp2_with fail
      refine (RWithout_any _ l (iLo l k) _ (hv0.below (Nat.le_refl _) hB) (by omega)).mono ?_
      rintro e w1 ⟨ov, rfl, ho, b1⟩
      obtain ⟨oa, ocap, rfl, _, _⟩ := ho.val
      go_wp2_with fail
      go_roundw
      case rel => exact ⟨k + 1, by omega, by go_num, by rw [Hn.out], (by ((repeat' (first | exact Below.refl _ _ | exact hB | exact b1 | refine Below.alloc ?_ ?_ _ | refine Below.setCell ?_ ?_ _ | refine Below.drew ?_ | refine below_drewN ?_ _ | refine Below.trans ?_ (hB.mono ?_) | refine Below.trans ?_ (b1.mono ?_))) <;> (first | omega | (simp; done) | (simp; omega))))⟩
      case measure => simp [intOf]; omega
    · obtain rfl : k = l.length := by omega
      go_wp2
      go_ret
      exact ⟨rfl, hB⟩
set_option maxRecDepth 100000 in
set_option maxHeartbeats 400000 in
theorem RLeast16_any (v : Value) (l : List Iv) (w : World) (hv : IvRow w v l) :
    Calls Tryd.prog 11 #[v] w fun e w' => e = .returned (.tuple #[.int .i64 (lstV l), .int .i64 (ouEr l)]) ∧ Below w.heap.size w w' := by
  unfold lstV
  cases hok : ouOk l with
  | true =>
    have hpos := ((ouOk_iff l).1 hok).1
    have he : ouEr l = 0 := by simp [ouEr, hok]; omega
    simp only [he, if_true]
    go_enter Tryd.func11, Tryd.ntmps11
    go_wp2_with (go_at_call 28; refine (Rcheck16_any _ l _ hv).mono ?_; rintro e w1 ⟨rfl, b1⟩; rw [he])
    refine (Rleast_any _ l _ (hv.below (Nat.le_refl _) b1) hpos.2).mono ?_
    rintro e w2 ⟨rfl, b2⟩
    have z1 := b1.size
    go_wp2_with fail
    refine bodyPost_ret (v := .tuple #[.int .i64 (lst l), .int .i64 0]) (by simp [results, Tryd.results11, go_sem]) rfl ⟨rfl, ?_⟩
    ((repeat' (first | exact Below.refl _ _ | exact b1 | exact b2 | refine Below.alloc ?_ ?_ _ | refine Below.setCell ?_ ?_ _ | refine Below.drew ?_ | refine below_drewN ?_ _ | refine Below.trans ?_ (b1.mono ?_) | refine Below.trans ?_ (b2.mono ?_))) <;> (first | omega | (simp; done) | (simp; omega)))
  | false =>
    have hne : ouEr l ≠ 0 := by unfold ouEr; split <;> simp [hok]
    have hne' : (ouEr l != 0) = true := by simpa using hne
    simp only [Bool.false_eq_true, if_false]
    clear hne
    go_enter Tryd.func11, Tryd.ntmps11
    go_wp2_with (go_at_call 28; refine (Rcheck16_any _ l _ hv).mono ?_; rintro e w1 ⟨rfl, b1⟩)
    refine bodyPost_ret (v := .tuple #[.int .i64 0, .int .i64 (ouEr l)]) (by simp [results, Tryd.results11, go_sem]) rfl ⟨rfl, ?_⟩
    ((repeat' (first | exact Below.refl _ _ | exact b1 | refine Below.alloc ?_ ?_ _ | refine Below.setCell ?_ ?_ _ | refine Below.drew ?_ | refine below_drewN ?_ _ | refine Below.trans ?_ (b1.mono ?_))) <;> (first | omega | (simp; done) | (simp; omega)))
end Go.Proofs.YtodkmbjhdckjiaaDoor
