
/- For all sites, schedules, choices, times and intervals: the statement CertBehaviour answers true; without a condition. -/
import Derived.Test.YtlmcoollkmhanaaGreatCtYq
namespace Go.Proofs.YtlmcoollkmhanaaGreat
open Go.RowKit

theorem Growth_val {r c G E : Int} (h1 : grw r c = G) (h2 : elEr r c = E) (w : World) : Calls Tryz.prog 18 #[.int .i64 r, .int .i64 c] w fun e w' => e = .returned (.tuple #[.int .i64 G, .int .i64 E]) ∧ Below w.heap.size w w' := by
 have h := wdGrowth_any r c w
 rw [h1, h2] at h
 exact h
theorem Comb_val {l : List Iv} {f X Y E : Int} (h1 : cbLo l f = X) (h2 : cbHi l f = Y) (h3 : cbEr l f = E) (v : Value) (w : World) (hv : IvRow w v l) :
  Calls Tryz.prog 22 #[v, .int .i64 f] w fun e w' => e = .returned (.tuple #[.agg #[.int .i64 X, .int .i64 Y], .int .i64 E]) ∧ Below w.heap.size w w' := by
 have h := Combine_any v l f w hv
 rw [h1, h2, h3] at h
 exact h
theorem Peer_val {r f lo tm : Int} {ps : List Pr} {i v E : Int} (h1 : pkW ⟨r, f, lo, tm, ps⟩ i = v) (h2 : pkE ⟨r, f, lo, tm, ps⟩ i = E) (pv : Value) (w : World) (hp : PrRow w pv ps) :
  Calls Tryz.prog 19 #[.agg #[.int .i64 r, .int .i64 f, .int .i64 lo, .int .i64 tm, pv], .int .i64 i] w fun e w' => e = .returned (.tuple #[.int .i64 v, .int .i64 E]) ∧ Below w.heap.size w w' := by
 have h := wdPeer_any r f lo tm pv ps i w hp
 rw [h1, h2] at h
 exact h
set_option maxRecDepth 100000 in
set_option maxHeartbeats 16000000 in
theorem CtZ2_any (w : World) (v0 : Value) (s : SiA) (hs : SiOk w v0 s) (v1 : Value) (c : ScA) (hc : ScOk w v1 c) (n : Int) (hn : 0 ≤ n ∧ n ≤ 65535) (at_ : Int) (hat : 0 ≤ at_ ∧ at_ ≤ 18446744073709551615) (v4 : Value) (lft : List Int) (hlf : URow w v4 lft) (v5 : Value) (rgt : List Int) (hrt : URow w v5 rgt) (v6 : Value) (lz : List Iv) (hlz : IvRow w v6 lz) :
  Calls Tryz.prog 4 #[v0, v1, .int .u16 n, .int .u64 at_, v4, v5, v6] w fun e w' => e = .returned (.bool true) ∧ Below w.heap.size w w' := by
 obtain ⟨r, f, lo, tm, pv, ps⟩ := s
 obtain ⟨rfl, hp, -, -⟩ := hs
 simp only at hp ⊢
 obtain ⟨pa, pc, rfl, -, -⟩ := hp.len
 obtain ⟨uv, use, ev⟩ := c
 obtain ⟨rfl, hu, -, hev⟩ := hc
 simp only at hu hev ⊢
 obtain ⟨ua, uc, rfl, -, -, -⟩ := id hu
 obtain ⟨fa, fc, rfl, -, -⟩ := hlf.len
 obtain ⟨ra, rc, rfl, -, -⟩ := hrt.len
 obtain ⟨za, zc, rfl, -, -, -⟩ := id hlz
 obtain ⟨W0, hW0⟩ : ∃ W : World, W = (w.alloc (.cells #[.int .i64 r, .int .i64 f, .int .i64 lo, .int .i64 tm, .slice pa ps.length pc] 24)).alloc (.cells #[.slice ua use.length uc, .int .i64 ev] 27) := ⟨_, rfl⟩
 obtain ⟨i0, hi0, hz0, hz1, hz2⟩ := info_parts infoIv
 have hb : Below w.heap.size w W0 := by rw [hW0]; ((with_reducible repeat' first | exact .refl _ _ | refine .alloc ?_ ?_ _ | refine .setCell ?_ ?_ _ | refine .drew ?_ | refine below_drewN ?_ _) <;> first | omega | simp <;> omega)
 have hS : BxC W0 w.heap.size [.int .i64 r, .int .i64 f, .int .i64 lo, .int .i64 tm, .slice pa ps.length pc] := by
  rw [hW0]
  exact (BxC.made w [.int .i64 r, .int .i64 f, .int .i64 lo, .int .i64 tm, .slice pa ps.length pc] 24).alloc _
 have hC : BxC W0 (w.heap.size + 1) [.slice ua use.length uc, .int .i64 ev] := by
  rw [hW0]
  have h_ := BxC.made (w.alloc (.cells #[.int .i64 r, .int .i64 f, .int .i64 lo, .int .i64 tm, .slice pa ps.length pc] 24)) [.slice ua use.length uc, .int .i64 ev] 27
  simp only [World.size_alloc] at h_
  exact h_
 have t_ := hp.below (Nat.le_refl _) hb; clear hp; have hp := t_; clear t_
 have t_ := hu.below (Nat.le_refl _) hb; clear hu; have hu := t_; clear t_
 have t_ := hlf.below (Nat.le_refl _) hb; clear hlf; have hlf := t_; clear t_
 have t_ := hrt.below (Nat.le_refl _) hb; clear hrt; have hrt := t_; clear t_
 have t_ := hlz.below (Nat.le_refl _) hb; clear hlz; have hlz := t_; clear t_
 cases hU : usB ⟨r, f, lo, tm, ps⟩ use ev with
 | false =>
  go_enter Tryz.func4, Tryz.ntmps4
  go_upto_region 1 with fail
  rw [← hW0]
  clear hW0
  have cS_0 := hS.1 0 _ rfl
  have cS_1 := hS.1 1 _ rfl
  have cS_2 := hS.1 2 _ rfl
  have cS_3 := hS.1 3 _ rfl
  have cS_4 := hS.1 4 _ rfl
  have zS := hS.2.2
  have cC_0 := hC.1 0 _ rfl
  have cC_1 := hC.1 1 _ rfl
  have zC := hC.2.2
  go_wp2_with (first | (go_at_call 6; (with_reducible refine (head31_any _).mono ?_); rintro e w1 ⟨rfl, k1⟩; clear cS_0 cS_1 cS_2 cS_3 cS_4 zS cC_0 cC_1 zC; have t_ := hS.below hS.2.2 k1; clear hS; have hS := t_; clear t_; have t_ := hC.below hC.2.2 k1; clear hC; have hC := t_; clear t_; have t_ := hp.below (Nat.le_refl _) k1; clear hp; have hp := t_; clear t_; have t_ := hu.below (Nat.le_refl _) k1; clear hu; have hu := t_; clear t_; have t_ := hlf.below (Nat.le_refl _) k1; clear hlf; have hlf := t_; clear t_; have t_ := hrt.below (Nat.le_refl _) k1; clear hrt; have hrt := t_; clear t_; have t_ := hlz.below (Nat.le_refl _) k1; clear hlz; have hlz := t_; clear t_; have t_ := hb.trans (k1.mono hb.size); clear hb; have hb := t_; clear t_; clear k1; have cS_0 := hS.1 0 _ rfl; have cS_1 := hS.1 1 _ rfl; have cS_2 := hS.1 2 _ rfl; have cS_3 := hS.1 3 _ rfl; have cS_4 := hS.1 4 _ rfl; have zS := hS.2.2; have cC_0 := hC.1 0 _ rfl; have cC_1 := hC.1 1 _ rfl; have zC := hC.2.2) | (go_at_call 16; (with_reducible refine (usable_any r f lo tm _ ps _ use ev _ hp hu).mono ?_); rintro e w2 ⟨rfl, k2⟩; rw [hU]; clear cS_0 cS_1 cS_2 cS_3 cS_4 zS cC_0 cC_1 zC; have t_ := hS.below hS.2.2 k2; clear hS; have hS := t_; clear t_; have t_ := hC.below hC.2.2 k2; clear hC; have hC := t_; clear t_; have t_ := hp.below (Nat.le_refl _) k2; clear hp; have hp := t_; clear t_; have t_ := hu.below (Nat.le_refl _) k2; clear hu; have hu := t_; clear t_; have t_ := hlf.below (Nat.le_refl _) k2; clear hlf; have hlf := t_; clear t_; have t_ := hrt.below (Nat.le_refl _) k2; clear hrt; have hrt := t_; clear t_; have t_ := hlz.below (Nat.le_refl _) k2; clear hlz; have hlz := t_; clear t_; have t_ := hb.trans (k2.mono hb.size); clear hb; have hb := t_; clear t_; clear k2; have cS_0 := hS.1 0 _ rfl; have cS_1 := hS.1 1 _ rfl; have cS_2 := hS.1 2 _ rfl; have cS_3 := hS.1 3 _ rfl; have cS_4 := hS.1 4 _ rfl; have zS := hS.2.2; have cC_0 := hC.1 0 _ rfl; have cC_1 := hC.1 1 _ rfl; have zC := hC.2.2))
  go_ret
  exact ⟨rfl, hb⟩
 | true =>
  obtain ⟨-, hrg, h8⟩ := (usB_iff _ _ _).1 hU
  have hel := rg_elOk hrg
  simp only at hel
  obtain ⟨G, hG⟩ : ∃ G, grw r (ev + tm) = G := ⟨_, rfl⟩
  have hE : elEr r (ev + tm) = 0 := by unfold elEr; rw [hel]; rfl
  have hsi := (siN_iff _).1 ((siB_iff _).1 ((rgB_iff _ _ _).1 hrg).1).1
  have hr2 := (rgB_iff _ _ _).1 hrg
  simp only at hsi hr2
  have hev2 := hr2.2.1
  have hgb := grw_bd hel
  rw [hG] at hgb
  have hGG : grw r (ev + tm) = G := hG
  have wt : IntKind.i64.wrap (ev + tm) = ev + tm := IntWalk.i64_in _ (by omega)
  obtain ⟨y, hy⟩ : ∃ y, at_ % 1000000000000 = y := ⟨_, rfl⟩
  have hy0 : 0 ≤ y ∧ y < 1000000000000 := by omega
  have wy : IntKind.i64.wrap y = y := IntWalk.i64_in _ (by omega)
  clear hr2
  go_enter Tryz.func4, Tryz.ntmps4
  go_upto_region 1 with fail
  rw [← hW0]
  clear hW0
  have cS_0 := hS.1 0 _ rfl
  have cS_1 := hS.1 1 _ rfl
  have cS_2 := hS.1 2 _ rfl
  have cS_3 := hS.1 3 _ rfl
  have cS_4 := hS.1 4 _ rfl
  have zS := hS.2.2
  have cC_0 := hC.1 0 _ rfl
  have cC_1 := hC.1 1 _ rfl
  have zC := hC.2.2
  go_upto_region 4 with (first | (go_at_call 6; (with_reducible refine (head31_any _).mono ?_); rintro e w1 ⟨rfl, k1⟩; clear cS_0 cS_1 cS_2 cS_3 cS_4 zS cC_0 cC_1 zC; have t_ := hS.below hS.2.2 k1; clear hS; have hS := t_; clear t_; have t_ := hC.below hC.2.2 k1; clear hC; have hC := t_; clear t_; have t_ := hp.below (Nat.le_refl _) k1; clear hp; have hp := t_; clear t_; have t_ := hu.below (Nat.le_refl _) k1; clear hu; have hu := t_; clear t_; have t_ := hlf.below (Nat.le_refl _) k1; clear hlf; have hlf := t_; clear t_; have t_ := hrt.below (Nat.le_refl _) k1; clear hrt; have hrt := t_; clear t_; have t_ := hlz.below (Nat.le_refl _) k1; clear hlz; have hlz := t_; clear t_; have t_ := hb.trans (k1.mono hb.size); clear hb; have hb := t_; clear t_; clear k1; have cS_0 := hS.1 0 _ rfl; have cS_1 := hS.1 1 _ rfl; have cS_2 := hS.1 2 _ rfl; have cS_3 := hS.1 3 _ rfl; have cS_4 := hS.1 4 _ rfl; have zS := hS.2.2; have cC_0 := hC.1 0 _ rfl; have cC_1 := hC.1 1 _ rfl; have zC := hC.2.2) | (go_at_call 16; (with_reducible refine (usable_any r f lo tm _ ps _ use ev _ hp hu).mono ?_); rintro e w2 ⟨rfl, k2⟩; rw [hU]; clear cS_0 cS_1 cS_2 cS_3 cS_4 zS cC_0 cC_1 zC; have t_ := hS.below hS.2.2 k2; clear hS; have hS := t_; clear t_; have t_ := hC.below hC.2.2 k2; clear hC; have hC := t_; clear t_; have t_ := hp.below (Nat.le_refl _) k2; clear hp; have hp := t_; clear t_; have t_ := hu.below (Nat.le_refl _) k2; clear hu; have hu := t_; clear t_; have t_ := hlf.below (Nat.le_refl _) k2; clear hlf; have hlf := t_; clear t_; have t_ := hrt.below (Nat.le_refl _) k2; clear hrt; have hrt := t_; clear t_; have t_ := hlz.below (Nat.le_refl _) k2; clear hlz; have hlz := t_; clear t_; have t_ := hb.trans (k2.mono hb.size); clear hb; have hb := t_; clear t_; clear k2; have cS_0 := hS.1 0 _ rfl; have cS_1 := hS.1 1 _ rfl; have cS_2 := hS.1 2 _ rfl; have cS_3 := hS.1 3 _ rfl; have cS_4 := hS.1 4 _ rfl; have zS := hS.2.2; have cC_0 := hC.1 0 _ rfl; have cC_1 := hC.1 1 _ rfl; have zC := hC.2.2))
  go_upto_region 5 with (go_at_call 17; (with_reducible refine (picked_any r f lo tm _ ps _ use ev n _ hp hu hrg h8 hn).mono ?_); rintro e w3 ⟨lv, gv, li, lg, rfl, ⟨hCh, hli, hlg⟩, k3⟩; obtain ⟨la, lc, hlv, -, -, -⟩ := id hli; subst hlv; obtain ⟨ga, gc, hgv, -, -, -⟩ := id hlg; subst hgv; clear cS_0 cS_1 cS_2 cS_3 cS_4 zS cC_0 cC_1 zC; have t_ := hS.below hS.2.2 k3; clear hS; have hS := t_; clear t_; have t_ := hC.below hC.2.2 k3; clear hC; have hC := t_; clear t_; have t_ := hp.below (Nat.le_refl _) k3; clear hp; have hp := t_; clear t_; have t_ := hu.below (Nat.le_refl _) k3; clear hu; have hu := t_; clear t_; have t_ := hlf.below (Nat.le_refl _) k3; clear hlf; have hlf := t_; clear t_; have t_ := hrt.below (Nat.le_refl _) k3; clear hrt; have hrt := t_; clear t_; have t_ := hlz.below (Nat.le_refl _) k3; clear hlz; have hlz := t_; clear t_; have t_ := hb.trans (k3.mono hb.size); clear hb; have hb := t_; clear t_; clear k3; have cS_0 := hS.1 0 _ rfl; have cS_1 := hS.1 1 _ rfl; have cS_2 := hS.1 2 _ rfl; have cS_3 := hS.1 3 _ rfl; have cS_4 := hS.1 4 _ rfl; have zS := hS.2.2; have cC_0 := hC.1 0 _ rfl; have cC_1 := hC.1 1 _ rfl; have zC := hC.2.2)
  have hlV : lmV ⟨r, f, lo, tm, ps⟩ use ev li lg = lim ⟨r, f, lo, tm, ps⟩ use ev li lg := by unfold lmV lmB; rw [hrg, (coB_iff _ _ _ _).2 hCh]; rfl
  have hlE : lmE ⟨r, f, lo, tm, ps⟩ use ev li lg = 0 := by unfold lmE lmB; rw [hrg, (coB_iff _ _ _ _).2 hCh]; rfl
  obtain ⟨LIM, hLIM⟩ : ∃ L, lim ⟨r, f, lo, tm, ps⟩ use ev li lg = L := ⟨_, rfl⟩
  have hlb := lim_le hrg hCh
  have hwdb := wdt_bd31 hrg
  simp only at hlb
  rw [hLIM, hG] at hlb
  have hLb : 0 ≤ LIM ∧ LIM ≤ 4000000000000000 := by omega
  rw [hLIM] at hlV
  go_upto_region 6 with (go_at_call 14; (with_reducible refine (Limit_val hlV hlE _ _ _ _ _ hp hu hli hlg).mono ?_); rintro e w4 ⟨rfl, k4⟩; clear cS_0 cS_1 cS_2 cS_3 cS_4 zS cC_0 cC_1 zC; have t_ := hS.below hS.2.2 k4; clear hS; have hS := t_; clear t_; have t_ := hC.below hC.2.2 k4; clear hC; have hC := t_; clear t_; have t_ := hp.below (Nat.le_refl _) k4; clear hp; have hp := t_; clear t_; have t_ := hu.below (Nat.le_refl _) k4; clear hu; have hu := t_; clear t_; have t_ := hlf.below (Nat.le_refl _) k4; clear hlf; have hlf := t_; clear t_; have t_ := hrt.below (Nat.le_refl _) k4; clear hrt; have hrt := t_; clear t_; have t_ := hlz.below (Nat.le_refl _) k4; clear hlz; have hlz := t_; clear t_; have t_ := hli.below (Nat.le_refl _) k4; clear hli; have hli := t_; clear t_; have t_ := hlg.below (Nat.le_refl _) k4; clear hlg; have hlg := t_; clear t_; have t_ := hb.trans (k4.mono hb.size); clear hb; have hb := t_; clear t_; clear k4; have cS_0 := hS.1 0 _ rfl; have cS_1 := hS.1 1 _ rfl; have cS_2 := hS.1 2 _ rfl; have cS_3 := hS.1 3 _ rfl; have cS_4 := hS.1 4 _ rfl; have zS := hS.2.2; have cC_0 := hC.1 0 _ rfl; have cC_1 := hC.1 1 _ rfl; have zC := hC.2.2)
  go_upto_region 9 with (go_at_call 18; (with_reducible refine (Growth_val hG hE _).mono ?_); rintro e w5 ⟨rfl, k5⟩; clear cS_0 cS_1 cS_2 cS_3 cS_4 zS cC_0 cC_1 zC; have t_ := hS.below hS.2.2 k5; clear hS; have hS := t_; clear t_; have t_ := hC.below hC.2.2 k5; clear hC; have hC := t_; clear t_; have t_ := hp.below (Nat.le_refl _) k5; clear hp; have hp := t_; clear t_; have t_ := hu.below (Nat.le_refl _) k5; clear hu; have hu := t_; clear t_; have t_ := hlf.below (Nat.le_refl _) k5; clear hlf; have hlf := t_; clear t_; have t_ := hrt.below (Nat.le_refl _) k5; clear hrt; have hrt := t_; clear t_; have t_ := hlz.below (Nat.le_refl _) k5; clear hlz; have hlz := t_; clear t_; have t_ := hli.below (Nat.le_refl _) k5; clear hli; have hli := t_; clear t_; have t_ := hlg.below (Nat.le_refl _) k5; clear hlg; have hlg := t_; clear t_; have t_ := hb.trans (k5.mono hb.size); clear hb; have hb := t_; clear t_; clear k5; have cS_0 := hS.1 0 _ rfl; have cS_1 := hS.1 1 _ rfl; have cS_2 := hS.1 2 _ rfl; have cS_3 := hS.1 3 _ rfl; have cS_4 := hS.1 4 _ rfl; have zS := hS.2.2; have cC_0 := hC.1 0 _ rfl; have cC_1 := hC.1 1 _ rfl; have zC := hC.2.2)
  obtain ⟨t, ht⟩ : ∃ t, t = 1000000000000 + y := ⟨_, rfl⟩
  rw [← ht]
  have ht2 : 1000000000000 ≤ t ∧ t ≤ 2000000000000 := by omega
  obtain ⟨ws, hws⟩ : ∃ ws, ws = wdL ps use := ⟨_, rfl⟩
  have hwl : ws.length = use.length := by rw [hws]; exact wdL_length _ _
  have hspz := (spOk_iff _ _ _).1 (rg_spOk hrg)
  have hwb : ∀ i, i < use.length → 0 ≤ iAt ws i ∧ iAt ws i ≤ 1000000000000 := fun i hi => by
   have := hspz.1.2 i (by rw [wdL_length]; exact hi)
   rw [hws]
   exact this
  have hpk : ∀ i, i < use.length → pkW ⟨r, f, lo, tm, ps⟩ (iAt use i) = iAt ws i ∧ pkE ⟨r, f, lo, tm, ps⟩ (iAt use i) = 0 := fun i hi => by
   have := pk_use hrg hi
   rw [hws]
   exact this
  obtain ⟨P, hP⟩ : ∃ P, P = bhP ws li lz lft rgt t := ⟨_, rfl⟩
  have HP := hide hP
  have Hws := hide hws
  have Hwb := hide hwb
  have Hpk := hide hpk
  have HCh := hide hCh
  have Ht := hide ht
  have HU := hide hU
  clear hP hws hwb hpk hspz hCh ht hU hlV hlE hG hE hel hy wy hy0 hsi wt hat hn
  have HA := hide (fun (V : World) (hV : Below w5.heap.size w5 V) => And.intro (hS.below hS.2.2 hV) (And.intro (hC.below hC.2.2 hV) (And.intro (hp.below (Nat.le_refl _) hV) (And.intro (hu.below (Nat.le_refl _) hV) (And.intro (hlf.below (Nat.le_refl _) hV) (And.intro (hrt.below (Nat.le_refl _) hV) (And.intro (hlz.below (Nat.le_refl _) hV) (And.intro (hli.below (Nat.le_refl _) hV) (And.intro (hlg.below (Nat.le_refl _) hV) (hb.trans (hV.mono hb.size)))))))))))
  go_wp2_with fail
  clear cS_0 cS_1 cS_2 cS_3 cS_4 zS cC_0 cC_1 zC hS hC hp hu hlf hrt hlz hli hlg hb
  go_loopw [23, 72] (fun s23 s72 wx => ∃ k : Nat, k ≤ use.length ∧ s72 = .int .i64 k ∧ OwnIv wx w5.heap.size s23 (bhL lg P k) ∧ Hid (∀ j, j < k → (j : Int) ∈ li → (j : Int) ∉ lg → validB (lieP lz t j).1 (lieP lz t j).2 = true) ∧ Below w5.heap.size w5 wx) (fun _ s72 _ => use.length - (intOf s72).toNat)
  case atStart => exact ⟨0, Nat.zero_le _, rfl, OwnP.nil _ _, hide (fun j hj => by omega), Below.refl _ _⟩
  case round =>
   obtain ⟨k, hk, rfl, hown, Hv, hB⟩ := hrel
   by_cases hlt : k < use.length
   ·obtain ⟨hS, hC, hp, hu, hlf, hrt, hlz, hli, hlg, hb⟩ := HA.out wr hB
    obtain ⟨a', cap', e', -, -, g3⟩ := id hu
    obtain ⟨b, off, rfl, h4, h5⟩ := g3 k hlt
    cases e'
    have I1 : (0 : Int) ≤ (k : Int) := by omega
    have I2 : (k : Int) < (use.length : Int) := by omega
    clear g3
    have cS_0 := hS.1 0 _ rfl
    have cS_1 := hS.1 1 _ rfl
    have cS_2 := hS.1 2 _ rfl
    have cS_3 := hS.1 3 _ rfl
    have cS_4 := hS.1 4 _ rfl
    have zS := hS.2.2
    have cC_0 := hC.1 0 _ rfl
    have cC_1 := hC.1 1 _ rfl
    have zC := hC.2.2
    go_upto_region 13 with (go_at_call 19; (with_reducible refine (Peer_val (Hpk.out k hlt).1 (Hpk.out k hlt).2 _ _ hp).mono ?_); rintro e w6 ⟨rfl, k6⟩)
    have hzB := hB.size
    have B6 : Below w5.heap.size w5 w6 := hB.trans (k6.mono hzB)
    have hown6 := hown.below (Nat.le_refl _) k6
    clear hS hC hp hu hlf hrt hlz hli hlg hb
    obtain ⟨hS, hC, hp, hu, hlf, hrt, hlz, hli, hlg, hb⟩ := HA.out w6 B6
    obtain ⟨W, hW⟩ : ∃ W, W = iAt ws k := ⟨_, rfl⟩
    rw [← hW]
    have hWb : 0 ≤ W ∧ W ≤ 1000000000000 := by rw [hW]; exact Hwb.out k hlt
    have hWn : ¬ W < 0 := by omega
    have hz6 := B6.size
    have HB6 := hide B6
    have HW := hide hW
    obtain ⟨L, hL⟩ : ∃ L, L = bhL lg P k := ⟨_, rfl⟩
    have hLk : L.length ≤ k := by rw [hL]; exact bhL_le lg P k
    rw [← hL] at hown6
    obtain ⟨oa, ocap, hov, -, -⟩ := hown6.val
    subst hov
    have hzb := hb.size
    have Hlow := hide (World.ownsRow.lt hown6)
    have Hown6 := hide hown6
    have HL := hide hL
    clear hown hown6 B6 hL hB k6 hW hS hC hp hu
    by_cases hkg : (k : Int) ∈ lg
    ·have dg : decide ((k : Int) ∈ lg) = true := decide_eq_true hkg
     have Hsn := hide (bhL_in (P := P) hkg)
     rw [← HL.out] at Hsn
     have Hv2 : Hid (∀ j, j < k + 1 → (j : Int) ∈ li → (j : Int) ∉ lg → validB (lieP lz t j).1 (lieP lz t j).2 = true) := hide fun j hj h1 h2 => by
      rcases Nat.lt_or_ge j k with h | h
      ·exact Hv.out j h h1 h2
      ·obtain rfl : j = k := by omega
       exact absurd hkg h2
     clear hkg
     go_wp2_with (go_at_call 20; (with_reducible refine (R31Has_any (.slice ga lg.length gc) lg _ _ hlg).mono ?_); rintro e w7 ⟨rfl, rfl⟩; rw [dg])
     go_roundw
     case rel => exact ⟨k + 1, by omega, by go_num, by rw [Hsn.out]; exact Hown6.out, Hv2, HB6.out⟩
     case measure => simp [intOf]; omega
    ·have dg : decide ((k : Int) ∈ lg) = false := decide_eq_false hkg
     have Hsn := hide (bhL_out (P := P) hkg)
     rw [← HL.out] at Hsn
     by_cases hkl : (k : Int) ∈ li
     ·have dl : decide ((k : Int) ∈ li) = true := decide_eq_true hkl
      have hPk : P k = lieP lz t k := by rw [HP.out]; unfold bhP; rw [if_pos hkl]
      have hvs : validB (lieP lz t k).1 (lieP lz t k).2 = true → Hid (∀ j, j < k + 1 → (j : Int) ∈ li → (j : Int) ∉ lg → validB (lieP lz t j).1 (lieP lz t j).2 = true) := fun hv => hide fun j hj h1 h2 => by
       rcases Nat.lt_or_ge j k with h | h
       ·exact Hv.out j h h1 h2
       ·obtain rfl : j = k := by omega
        exact hv
      clear hkl hkg
      by_cases hlz0 : lz.length = 0
      ·have hq : lieP lz t k = (t, t) := by unfold lieP; rw [if_pos hlz0]
       rw [hq] at hPk hvs
       have hvt : validB t t = true := by unfold validB; exact decide_eq_true (by omega)
       have Hv2 := hvs hvt
       have HPk := hide hPk
       have dz : decide ((0 : Int) < (lz.length : Int)) = false := decide_eq_false (by omega)
       have dz2 : decide (0 < lz.length) = false := decide_eq_false (by omega)
       have dz3 : ¬ 0 < lz.length := by omega
       clear hq hPk hvs hlz0
       go_wp2_with (first | (go_at_call 20; (with_reducible refine (R31Has_any (.slice ga lg.length gc) lg _ _ hlg).mono ?_); rintro e w7 ⟨rfl, rfl⟩; rw [dg]) | (go_at_call 20; (with_reducible refine (R31Has_any (.slice la li.length lc) li _ _ hli).mono ?_); rintro e w8 ⟨rfl, rfl⟩; rw [dl]) | (go_at_call 21; (with_reducible refine (RValid_any t t _).mono ?_); rintro e w7 ⟨rfl, hw7⟩; rw [hvt]; have k7 : Below w6.heap.size w6 w7 := (by rw [hw7]; ((with_reducible repeat' first | exact .refl _ _ | refine .alloc ?_ ?_ _ | refine .setCell ?_ ?_ _ | refine .drew ?_ | refine below_drewN ?_ _) <;> first | omega | simp <;> omega)); have u0 : w7.cell? ⟨w6.heap.size, 0, none⟩ = some (.int .i64 t) := (by rw [hw7]; simp [go_sem]); have u1 : w7.cell? ⟨w6.heap.size, 1, none⟩ = some (.int .i64 t) := (by rw [hw7]; simp [go_sem]); have hz7 : w6.heap.size < w7.heap.size := (by rw [hw7]; simp; omega); clear hw7) | (at_builtin; refine wpList_append_own _ rfl _ _ 46 rfl w5.heap.size 53 i0 (.agg #[.int .i64 0, .int .i64 0]) 2 16 Tryz.underlying46 hi0 hz0 hz1 hz2 rfl (by decide) _ L.length (encL L) rfl (World.ownsRow.alloc (ownsRow_below Hown6.out k7) _) ⟨w7.heap.size, 0, none⟩ 1 1 [.int .i64 t, .int .i64 t] rfl rfl (cells_new w7 [.int .i64 t, .int .i64 t] _) (by simp [Value.oneCell']) (by unfold maxLen; omega) (by omega) (by simp; omega) ?_; intro v9 w9 hown9 hg9 _))
       have hB9 : Below w5.heap.size w5 w9 := Below.grown (by ((with_reducible repeat' first | exact .refl _ _ | exact k7 | exact HB6.out | refine .alloc ?_ ?_ _ | refine .setCell ?_ ?_ _ | refine .drew ?_ | refine below_drewN ?_ _ | refine Below.trans ?_ (k7.mono ?_) | refine Below.trans ?_ (HB6.out.mono ?_)) <;> first | omega | simp <;> omega)) hg9 (by simp; omega) (fun r h => (Hlow.out r h).1)
       have hown10 : OwnIv w9 w5.heap.size v9 (L ++ [P k]) := by rw [HPk.out]; exact OwnP.app (by simpa using hown9)
       go_roundw
       case rel => exact ⟨k + 1, by omega, by go_num, by rw [Hsn.out]; exact hown10, Hv2, hB9⟩
       case measure => simp [intOf]; omega
      ·have dz : decide ((0 : Int) < (lz.length : Int)) = true := decide_eq_true (by omega)
       have dz2 : decide (0 < lz.length) = true := decide_eq_true (by omega)
       have dz3 : 0 < lz.length := by omega
       obtain ⟨q, hq⟩ : ∃ q, q = k % lz.length := ⟨_, rfl⟩
       have hql : q < lz.length := by rw [hq]; exact Nat.mod_lt _ (by omega)
       have hqi : (k : Int) % (lz.length : Int) = (q : Int) := by omega
       have hlq : lieP lz t k = (iLo lz q, iHi lz q) := by unfold lieP; rw [if_neg hlz0, ← hq]; rfl
       rw [hlq] at hPk hvs
       obtain ⟨z', zc', e', -, -, g3⟩ := id hlz
       obtain ⟨zb, zo, rfl, g4, g5, g6⟩ := g3 q hql
       cases e'
       generalize iLo lz q = A at *
       generalize iHi lz q = B at *
       have HPk := hide hPk
       have J1 : (0 : Int) ≤ (q : Int) := by omega
       have J2 : (q : Int) < (lz.length : Int) := by omega
       have n1 : ¬ (lz.length : Int) = 0 := by omega
       have n2 : ((lz.length : Int) == 0) = false := by rw [beq_eq_false_iff_ne]; exact n1
       clear hq hlq hPk g3 hlz0
       cases hvt : validB A B with
       | false =>
        go_wp2_with (first | (go_at_call 20; (with_reducible refine (R31Has_any (.slice ga lg.length gc) lg _ _ hlg).mono ?_); rintro e w7 ⟨rfl, rfl⟩; rw [dg]) | (go_at_call 20; (with_reducible refine (R31Has_any (.slice la li.length lc) li _ _ hli).mono ?_); rintro e w8 ⟨rfl, rfl⟩; rw [dl]) | (go_at_call 21; (with_reducible refine (RValid_any A B _).mono ?_); rintro e w7 ⟨rfl, rfl⟩; rw [hvt]))
        go_ret
        exact ⟨rfl, (by ((with_reducible repeat' first | exact .refl _ _ | exact hb | refine .alloc ?_ ?_ _ | refine .setCell ?_ ?_ _ | refine .drew ?_ | refine below_drewN ?_ _ | refine Below.trans ?_ (hb.mono ?_)) <;> first | omega | simp <;> omega))⟩
       | true =>
        have Hv2 := hvs hvt
        clear hvs
        go_wp2_with (first | (go_at_call 20; (with_reducible refine (R31Has_any (.slice ga lg.length gc) lg _ _ hlg).mono ?_); rintro e w7 ⟨rfl, rfl⟩; rw [dg]) | (go_at_call 20; (with_reducible refine (R31Has_any (.slice la li.length lc) li _ _ hli).mono ?_); rintro e w8 ⟨rfl, rfl⟩; rw [dl]) | (go_at_call 21; (with_reducible refine (RValid_any A B _).mono ?_); rintro e w7 ⟨rfl, hw7⟩; rw [hvt]; have k7 : Below w6.heap.size w6 w7 := (by rw [hw7]; ((with_reducible repeat' first | exact .refl _ _ | refine .alloc ?_ ?_ _ | refine .setCell ?_ ?_ _ | refine .drew ?_ | refine below_drewN ?_ _) <;> first | omega | simp <;> omega)); have u0 : w7.cell? ⟨w6.heap.size, 0, none⟩ = some (.int .i64 A) := (by rw [hw7]; simp [go_sem]); have u1 : w7.cell? ⟨w6.heap.size, 1, none⟩ = some (.int .i64 B) := (by rw [hw7]; simp [go_sem]); have hz7 : w6.heap.size < w7.heap.size := (by rw [hw7]; simp; omega); clear hw7) | (at_builtin; refine wpList_append_own _ rfl _ _ 46 rfl w5.heap.size 53 i0 (.agg #[.int .i64 0, .int .i64 0]) 2 16 Tryz.underlying46 hi0 hz0 hz1 hz2 rfl (by decide) _ L.length (encL L) rfl (World.ownsRow.alloc (ownsRow_below Hown6.out k7) _) ⟨w7.heap.size, 0, none⟩ 1 1 [.int .i64 A, .int .i64 B] rfl rfl (cells_new w7 [.int .i64 A, .int .i64 B] _) (by simp [Value.oneCell']) (by unfold maxLen; omega) (by omega) (by simp; omega) ?_; intro v9 w9 hown9 hg9 _))
        have hB9 : Below w5.heap.size w5 w9 := Below.grown (by ((with_reducible repeat' first | exact .refl _ _ | exact k7 | exact HB6.out | refine .alloc ?_ ?_ _ | refine .setCell ?_ ?_ _ | refine .drew ?_ | refine below_drewN ?_ _ | refine Below.trans ?_ (k7.mono ?_) | refine Below.trans ?_ (HB6.out.mono ?_)) <;> first | omega | simp <;> omega)) hg9 (by simp; omega) (fun r h => (Hlow.out r h).1)
        have hown10 : OwnIv w9 w5.heap.size v9 (L ++ [P k]) := by rw [HPk.out]; exact OwnP.app (by simpa using hown9)
        go_roundw
        case rel => exact ⟨k + 1, by omega, by go_num, by rw [Hsn.out]; exact hown10, Hv2, hB9⟩
        case measure => simp [intOf]; omega
     ·have dl : decide ((k : Int) ∈ li) = false := decide_eq_false hkl
      have hv2 : ∀ j, j < k + 1 → (j : Int) ∈ li → (j : Int) ∉ lg → validB (lieP lz t j).1 (lieP lz t j).2 = true := fun j hj h1 h2 => by
       rcases Nat.lt_or_ge j k with h | h
       ·exact Hv.out j h h1 h2
       ·obtain rfl : j = k := by omega
        exact absurd h1 hkl
      have Hv2 := hide hv2
      have hPk0 : P k = (t - lftP ws lft k, t + rgtP ws lft rgt k) := by rw [HP.out]; unfold bhP; rw [if_neg hkl]
      have HPk0 := hide hPk0
      have wW1 : IntKind.i64.wrap (W + 1) = W + 1 := IntWalk.i64_in _ (by omega)
      have wW0 : IntKind.i64.wrap W = W := IntWalk.i64_in _ (by omega)
      have nW1 : ¬ (W + 1 = 0) := by omega
      have nW2 : ((W + 1) == 0) = false := by rw [beq_eq_false_iff_ne]; exact nW1
      have pW1 : 0 < W + 1 := by omega
      have wt0 : IntKind.i64.wrap t = t := IntWalk.i64_in _ (by omega)
      have wtW : IntKind.i64.wrap (t + W) = t + W := IntWalk.i64_in _ (by omega)
      clear hv2 hPk0 hkl hkg
      by_cases hf : k < lft.length
      ·obtain ⟨fb, fo, fk, e', f4, f5, f6, f7⟩ := hlf.at_ hf
       cases e'
       obtain ⟨q1, hq1⟩ : ∃ q, q = iAt lft k := ⟨_, rfl⟩
       rw [← hq1] at f5 f6 f7
       have wq1 : IntKind.i64.wrap q1 = q1 := IntWalk.i64_in _ (by omega)
       have L2 : (k : Int) < (lft.length : Int) := by omega
       have df : decide ((k : Int) < (lft.length : Int)) = true := decide_eq_true L2
       obtain ⟨A, hA⟩ : ∃ A, q1 % (W + 1) = A := ⟨_, rfl⟩
       have hA2 : 0 ≤ A ∧ A < W + 1 := by rw [← hA]; exact ⟨Int.emod_nonneg _ (by omega), Int.emod_lt_of_pos _ (by omega)⟩
       have eA : lftP ws lft k = A := by unfold lftP; rw [if_pos hf, ← HW.out, ← hq1, hA]
       have wWA : IntKind.i64.wrap (W - A) = W - A := IntWalk.i64_in _ (by omega)
       have wWA1 : IntKind.i64.wrap (W - A + 1) = W - A + 1 := IntWalk.i64_in _ (by omega)
       have nWA : ¬ (W - A + 1 = 0) := by omega
       have nWA2 : ((W - A + 1) == 0) = false := by rw [beq_eq_false_iff_ne]; exact nWA
       have pWA : 0 < W - A + 1 := by omega
       have wtA : IntKind.i64.wrap (t - A) = t - A := IntWalk.i64_in _ (by omega)
       by_cases hm : k % 3 = 2
       ·have dm : (((k : Int) % 3) == 2) = true := by rw [beq_iff_eq]; omega
        by_cases hr : k < rgt.length
        ·skip
         obtain ⟨rb, ro, rk, e', j4, j5, j6, j7⟩ := hrt.at_ hr
         cases e'
         obtain ⟨q2, hq2⟩ : ∃ q, q = iAt rgt k := ⟨_, rfl⟩
         rw [← hq2] at j5 j6 j7
         have wq2 : IntKind.i64.wrap q2 = q2 := IntWalk.i64_in _ (by omega)
         have R2 : (k : Int) < (rgt.length : Int) := by omega
         have dr : decide ((k : Int) < (rgt.length : Int)) = true := decide_eq_true R2
         have eB : rgtP ws lft rgt k = W - A := by unfold rgtP; rw [if_pos hm, eA, ← HW.out]
         have hPk : P k = (t - A, t + (W - A)) := by rw [HPk0.out, eA, eB]
         have HPk := hide hPk
         have wtm : IntKind.i64.wrap (t + (W - A)) = t + (W - A) := IntWalk.i64_in _ (by omega)
         clear eA eB hPk hm hq2 hq1
         clear hr
         have kk6 : Below w6.heap.size w6 w6 := Below.refl _ _
         go_wp2_with (first | (go_at_call 20; (with_reducible refine (R31Has_any (.slice ga lg.length gc) lg _ _ hlg).mono ?_); rintro e w7 ⟨rfl, rfl⟩; rw [dg]) | (go_at_call 20; (with_reducible refine (R31Has_any (.slice la li.length lc) li _ _ hli).mono ?_); rintro e w8 ⟨rfl, rfl⟩; rw [dl]) | (at_builtin; refine wpList_append_own _ rfl _ _ 46 rfl w5.heap.size 53 i0 (.agg #[.int .i64 0, .int .i64 0]) 2 16 Tryz.underlying46 hi0 hz0 hz1 hz2 rfl (by decide) _ L.length (encL L) rfl (World.ownsRow.alloc (ownsRow_below Hown6.out kk6) _) ⟨w6.heap.size, 0, none⟩ 1 1 [.int .i64 (t - A), .int .i64 (t + (W - A))] rfl rfl (cells_new w6 [.int .i64 (t - A), .int .i64 (t + (W - A))] _) (by simp [Value.oneCell']) (by unfold maxLen; omega) (by omega) (by simp; omega) ?_; intro v9 w9 hown9 hg9 _))
         have hB9 : Below w5.heap.size w5 w9 := Below.grown (by ((with_reducible repeat' first | exact .refl _ _ | exact kk6 | exact HB6.out | refine .alloc ?_ ?_ _ | refine .setCell ?_ ?_ _ | refine .drew ?_ | refine below_drewN ?_ _ | refine Below.trans ?_ (kk6.mono ?_) | refine Below.trans ?_ (HB6.out.mono ?_)) <;> first | omega | simp <;> omega)) hg9 (by simp; omega) (fun r h => (Hlow.out r h).1)
         have hown10 : OwnIv w9 w5.heap.size v9 (L ++ [P k]) := by rw [HPk.out]; exact OwnP.app (by simpa using hown9)
         go_roundw
         case rel => exact ⟨k + 1, by omega, by go_num, by rw [Hsn.out]; exact hown10, Hv2, hB9⟩
         case measure => simp [intOf]; omega
        ·skip
         have dr : decide ((k : Int) < (rgt.length : Int)) = false := decide_eq_false (by omega)
         have dr2 : ¬ (k < rgt.length) := hr
         have eB : rgtP ws lft rgt k = W - A := by unfold rgtP; rw [if_pos hm, eA, ← HW.out]
         have hPk : P k = (t - A, t + (W - A)) := by rw [HPk0.out, eA, eB]
         have HPk := hide hPk
         have wtm : IntKind.i64.wrap (t + (W - A)) = t + (W - A) := IntWalk.i64_in _ (by omega)
         clear eA eB hPk hm hq1
         clear hr
         have kk6 : Below w6.heap.size w6 w6 := Below.refl _ _
         go_wp2_with (first | (go_at_call 20; (with_reducible refine (R31Has_any (.slice ga lg.length gc) lg _ _ hlg).mono ?_); rintro e w7 ⟨rfl, rfl⟩; rw [dg]) | (go_at_call 20; (with_reducible refine (R31Has_any (.slice la li.length lc) li _ _ hli).mono ?_); rintro e w8 ⟨rfl, rfl⟩; rw [dl]) | (at_builtin; refine wpList_append_own _ rfl _ _ 46 rfl w5.heap.size 53 i0 (.agg #[.int .i64 0, .int .i64 0]) 2 16 Tryz.underlying46 hi0 hz0 hz1 hz2 rfl (by decide) _ L.length (encL L) rfl (World.ownsRow.alloc (ownsRow_below Hown6.out kk6) _) ⟨w6.heap.size, 0, none⟩ 1 1 [.int .i64 (t - A), .int .i64 (t + (W - A))] rfl rfl (cells_new w6 [.int .i64 (t - A), .int .i64 (t + (W - A))] _) (by simp [Value.oneCell']) (by unfold maxLen; omega) (by omega) (by simp; omega) ?_; intro v9 w9 hown9 hg9 _))
         have hB9 : Below w5.heap.size w5 w9 := Below.grown (by ((with_reducible repeat' first | exact .refl _ _ | exact kk6 | exact HB6.out | refine .alloc ?_ ?_ _ | refine .setCell ?_ ?_ _ | refine .drew ?_ | refine below_drewN ?_ _ | refine Below.trans ?_ (kk6.mono ?_) | refine Below.trans ?_ (HB6.out.mono ?_)) <;> first | omega | simp <;> omega)) hg9 (by simp; omega) (fun r h => (Hlow.out r h).1)
         have hown10 : OwnIv w9 w5.heap.size v9 (L ++ [P k]) := by rw [HPk.out]; exact OwnP.app (by simpa using hown9)
         go_roundw
         case rel => exact ⟨k + 1, by omega, by go_num, by rw [Hsn.out]; exact hown10, Hv2, hB9⟩
         case measure => simp [intOf]; omega
       ·have dm : (((k : Int) % 3) == 2) = false := by rw [beq_eq_false_iff_ne]; omega
        by_cases hr : k < rgt.length
        ·skip
         obtain ⟨rb, ro, rk, e', j4, j5, j6, j7⟩ := hrt.at_ hr
         cases e'
         obtain ⟨q2, hq2⟩ : ∃ q, q = iAt rgt k := ⟨_, rfl⟩
         rw [← hq2] at j5 j6 j7
         have wq2 : IntKind.i64.wrap q2 = q2 := IntWalk.i64_in _ (by omega)
         have R2 : (k : Int) < (rgt.length : Int) := by omega
         have dr : decide ((k : Int) < (rgt.length : Int)) = true := decide_eq_true R2
         obtain ⟨B, hB2⟩ : ∃ B, q2 % (W - A + 1) = B := ⟨_, rfl⟩
         have hB3 : 0 ≤ B ∧ B < W - A + 1 := by rw [← hB2]; exact ⟨Int.emod_nonneg _ (by omega), Int.emod_lt_of_pos _ (by omega)⟩
         have wtB : IntKind.i64.wrap (t + B) = t + B := IntWalk.i64_in _ (by omega)
         have eB : rgtP ws lft rgt k = B := by unfold rgtP; rw [if_neg hm, if_pos hr, eA, ← HW.out, ← hq2, hB2]
         have hPk : P k = (t - A, t + B) := by rw [HPk0.out, eA, eB]
         have HPk := hide hPk
         clear eA eB hPk hm hq2 hq1
         clear hr
         have kk6 : Below w6.heap.size w6 w6 := Below.refl _ _
         go_wp2_with (first | (go_at_call 20; (with_reducible refine (R31Has_any (.slice ga lg.length gc) lg _ _ hlg).mono ?_); rintro e w7 ⟨rfl, rfl⟩; rw [dg]) | (go_at_call 20; (with_reducible refine (R31Has_any (.slice la li.length lc) li _ _ hli).mono ?_); rintro e w8 ⟨rfl, rfl⟩; rw [dl]) | (at_builtin; refine wpList_append_own _ rfl _ _ 46 rfl w5.heap.size 53 i0 (.agg #[.int .i64 0, .int .i64 0]) 2 16 Tryz.underlying46 hi0 hz0 hz1 hz2 rfl (by decide) _ L.length (encL L) rfl (World.ownsRow.alloc (ownsRow_below Hown6.out kk6) _) ⟨w6.heap.size, 0, none⟩ 1 1 [.int .i64 (t - A), .int .i64 (t + B)] rfl rfl (cells_new w6 [.int .i64 (t - A), .int .i64 (t + B)] _) (by simp [Value.oneCell']) (by unfold maxLen; omega) (by omega) (by simp; omega) ?_; intro v9 w9 hown9 hg9 _))
         have hB9 : Below w5.heap.size w5 w9 := Below.grown (by ((with_reducible repeat' first | exact .refl _ _ | exact kk6 | exact HB6.out | refine .alloc ?_ ?_ _ | refine .setCell ?_ ?_ _ | refine .drew ?_ | refine below_drewN ?_ _ | refine Below.trans ?_ (kk6.mono ?_) | refine Below.trans ?_ (HB6.out.mono ?_)) <;> first | omega | simp <;> omega)) hg9 (by simp; omega) (fun r h => (Hlow.out r h).1)
         have hown10 : OwnIv w9 w5.heap.size v9 (L ++ [P k]) := by rw [HPk.out]; exact OwnP.app (by simpa using hown9)
         go_roundw
         case rel => exact ⟨k + 1, by omega, by go_num, by rw [Hsn.out]; exact hown10, Hv2, hB9⟩
         case measure => simp [intOf]; omega
        ·skip
         have dr : decide ((k : Int) < (rgt.length : Int)) = false := decide_eq_false (by omega)
         have dr2 : ¬ (k < rgt.length) := hr
         have eB : rgtP ws lft rgt k = 0 := by unfold rgtP; rw [if_neg hm, if_neg hr]
         have hPk : P k = (t - A, t) := by rw [HPk0.out, eA, eB]; simp
         have HPk := hide hPk
         clear eA eB hPk hm hq1
         clear hr
         have kk6 : Below w6.heap.size w6 w6 := Below.refl _ _
         go_wp2_with (first | (go_at_call 20; (with_reducible refine (R31Has_any (.slice ga lg.length gc) lg _ _ hlg).mono ?_); rintro e w7 ⟨rfl, rfl⟩; rw [dg]) | (go_at_call 20; (with_reducible refine (R31Has_any (.slice la li.length lc) li _ _ hli).mono ?_); rintro e w8 ⟨rfl, rfl⟩; rw [dl]) | (at_builtin; refine wpList_append_own _ rfl _ _ 46 rfl w5.heap.size 53 i0 (.agg #[.int .i64 0, .int .i64 0]) 2 16 Tryz.underlying46 hi0 hz0 hz1 hz2 rfl (by decide) _ L.length (encL L) rfl (World.ownsRow.alloc (ownsRow_below Hown6.out kk6) _) ⟨w6.heap.size, 0, none⟩ 1 1 [.int .i64 (t - A), .int .i64 (t)] rfl rfl (cells_new w6 [.int .i64 (t - A), .int .i64 (t)] _) (by simp [Value.oneCell']) (by unfold maxLen; omega) (by omega) (by simp; omega) ?_; intro v9 w9 hown9 hg9 _))
         have hB9 : Below w5.heap.size w5 w9 := Below.grown (by ((with_reducible repeat' first | exact .refl _ _ | exact kk6 | exact HB6.out | refine .alloc ?_ ?_ _ | refine .setCell ?_ ?_ _ | refine .drew ?_ | refine below_drewN ?_ _ | refine Below.trans ?_ (kk6.mono ?_) | refine Below.trans ?_ (HB6.out.mono ?_)) <;> first | omega | simp <;> omega)) hg9 (by simp; omega) (fun r h => (Hlow.out r h).1)
         have hown10 : OwnIv w9 w5.heap.size v9 (L ++ [P k]) := by rw [HPk.out]; exact OwnP.app (by simpa using hown9)
         go_roundw
         case rel => exact ⟨k + 1, by omega, by go_num, by rw [Hsn.out]; exact hown10, Hv2, hB9⟩
         case measure => simp [intOf]; omega
      ·have df : decide ((k : Int) < (lft.length : Int)) = false := decide_eq_false (by omega)
       have df2 : ¬ (k < lft.length) := hf
       have eA : lftP ws lft k = 0 := by unfold lftP; rw [if_neg hf]
       by_cases hm : k % 3 = 2
       ·have dm : (((k : Int) % 3) == 2) = true := by rw [beq_iff_eq]; omega
        by_cases hr : k < rgt.length
        ·skip
         obtain ⟨rb, ro, rk, e', j4, j5, j6, j7⟩ := hrt.at_ hr
         cases e'
         obtain ⟨q2, hq2⟩ : ∃ q, q = iAt rgt k := ⟨_, rfl⟩
         rw [← hq2] at j5 j6 j7
         have wq2 : IntKind.i64.wrap q2 = q2 := IntWalk.i64_in _ (by omega)
         have R2 : (k : Int) < (rgt.length : Int) := by omega
         have dr : decide ((k : Int) < (rgt.length : Int)) = true := decide_eq_true R2
         have eB : rgtP ws lft rgt k = W - 0 := by unfold rgtP; rw [if_pos hm, eA, ← HW.out]
         have hPk : P k = (t, t + W) := by rw [HPk0.out, eA, eB]; simp
         have HPk := hide hPk
         have wtm : IntKind.i64.wrap (t + W) = t + W := IntWalk.i64_in _ (by omega)
         clear eA eB hPk hm hq2
         clear hr
         have kk6 : Below w6.heap.size w6 w6 := Below.refl _ _
         go_wp2_with (first | (go_at_call 20; (with_reducible refine (R31Has_any (.slice ga lg.length gc) lg _ _ hlg).mono ?_); rintro e w7 ⟨rfl, rfl⟩; rw [dg]) | (go_at_call 20; (with_reducible refine (R31Has_any (.slice la li.length lc) li _ _ hli).mono ?_); rintro e w8 ⟨rfl, rfl⟩; rw [dl]) | (at_builtin; refine wpList_append_own _ rfl _ _ 46 rfl w5.heap.size 53 i0 (.agg #[.int .i64 0, .int .i64 0]) 2 16 Tryz.underlying46 hi0 hz0 hz1 hz2 rfl (by decide) _ L.length (encL L) rfl (World.ownsRow.alloc (ownsRow_below Hown6.out kk6) _) ⟨w6.heap.size, 0, none⟩ 1 1 [.int .i64 (t), .int .i64 (t + W)] rfl rfl (cells_new w6 [.int .i64 (t), .int .i64 (t + W)] _) (by simp [Value.oneCell']) (by unfold maxLen; omega) (by omega) (by simp; omega) ?_; intro v9 w9 hown9 hg9 _))
         have hB9 : Below w5.heap.size w5 w9 := Below.grown (by ((with_reducible repeat' first | exact .refl _ _ | exact kk6 | exact HB6.out | refine .alloc ?_ ?_ _ | refine .setCell ?_ ?_ _ | refine .drew ?_ | refine below_drewN ?_ _ | refine Below.trans ?_ (kk6.mono ?_) | refine Below.trans ?_ (HB6.out.mono ?_)) <;> first | omega | simp <;> omega)) hg9 (by simp; omega) (fun r h => (Hlow.out r h).1)
         have hown10 : OwnIv w9 w5.heap.size v9 (L ++ [P k]) := by rw [HPk.out]; exact OwnP.app (by simpa using hown9)
         go_roundw
         case rel => exact ⟨k + 1, by omega, by go_num, by rw [Hsn.out]; exact hown10, Hv2, hB9⟩
         case measure => simp [intOf]; omega
        ·skip
         have dr : decide ((k : Int) < (rgt.length : Int)) = false := decide_eq_false (by omega)
         have dr2 : ¬ (k < rgt.length) := hr
         have eB : rgtP ws lft rgt k = W - 0 := by unfold rgtP; rw [if_pos hm, eA, ← HW.out]
         have hPk : P k = (t, t + W) := by rw [HPk0.out, eA, eB]; simp
         have HPk := hide hPk
         have wtm : IntKind.i64.wrap (t + W) = t + W := IntWalk.i64_in _ (by omega)
         clear eA eB hPk hm
         clear hr
         have kk6 : Below w6.heap.size w6 w6 := Below.refl _ _
         go_wp2_with (first | (go_at_call 20; (with_reducible refine (R31Has_any (.slice ga lg.length gc) lg _ _ hlg).mono ?_); rintro e w7 ⟨rfl, rfl⟩; rw [dg]) | (go_at_call 20; (with_reducible refine (R31Has_any (.slice la li.length lc) li _ _ hli).mono ?_); rintro e w8 ⟨rfl, rfl⟩; rw [dl]) | (at_builtin; refine wpList_append_own _ rfl _ _ 46 rfl w5.heap.size 53 i0 (.agg #[.int .i64 0, .int .i64 0]) 2 16 Tryz.underlying46 hi0 hz0 hz1 hz2 rfl (by decide) _ L.length (encL L) rfl (World.ownsRow.alloc (ownsRow_below Hown6.out kk6) _) ⟨w6.heap.size, 0, none⟩ 1 1 [.int .i64 (t), .int .i64 (t + W)] rfl rfl (cells_new w6 [.int .i64 (t), .int .i64 (t + W)] _) (by simp [Value.oneCell']) (by unfold maxLen; omega) (by omega) (by simp; omega) ?_; intro v9 w9 hown9 hg9 _))
         have hB9 : Below w5.heap.size w5 w9 := Below.grown (by ((with_reducible repeat' first | exact .refl _ _ | exact kk6 | exact HB6.out | refine .alloc ?_ ?_ _ | refine .setCell ?_ ?_ _ | refine .drew ?_ | refine below_drewN ?_ _ | refine Below.trans ?_ (kk6.mono ?_) | refine Below.trans ?_ (HB6.out.mono ?_)) <;> first | omega | simp <;> omega)) hg9 (by simp; omega) (fun r h => (Hlow.out r h).1)
         have hown10 : OwnIv w9 w5.heap.size v9 (L ++ [P k]) := by rw [HPk.out]; exact OwnP.app (by simpa using hown9)
         go_roundw
         case rel => exact ⟨k + 1, by omega, by go_num, by rw [Hsn.out]; exact hown10, Hv2, hB9⟩
         case measure => simp [intOf]; omega
       ·have dm : (((k : Int) % 3) == 2) = false := by rw [beq_eq_false_iff_ne]; omega
        by_cases hr : k < rgt.length
        ·skip
         obtain ⟨rb, ro, rk, e', j4, j5, j6, j7⟩ := hrt.at_ hr
         cases e'
         obtain ⟨q2, hq2⟩ : ∃ q, q = iAt rgt k := ⟨_, rfl⟩
         rw [← hq2] at j5 j6 j7
         have wq2 : IntKind.i64.wrap q2 = q2 := IntWalk.i64_in _ (by omega)
         have R2 : (k : Int) < (rgt.length : Int) := by omega
         have dr : decide ((k : Int) < (rgt.length : Int)) = true := decide_eq_true R2
         obtain ⟨B, hB2⟩ : ∃ B, q2 % (W + 1) = B := ⟨_, rfl⟩
         have hB3 : 0 ≤ B ∧ B < W + 1 := by rw [← hB2]; exact ⟨Int.emod_nonneg _ (by omega), Int.emod_lt_of_pos _ (by omega)⟩
         have wtB : IntKind.i64.wrap (t + B) = t + B := IntWalk.i64_in _ (by omega)
         have eB : rgtP ws lft rgt k = B := by unfold rgtP; rw [if_neg hm, if_pos hr, eA, ← HW.out, ← hq2]; rw [show W - 0 + 1 = W + 1 by omega, hB2]
         have hPk : P k = (t, t + B) := by rw [HPk0.out, eA, eB]; simp
         have HPk := hide hPk
         clear eA eB hPk hm hq2
         clear hr
         have kk6 : Below w6.heap.size w6 w6 := Below.refl _ _
         go_wp2_with (first | (go_at_call 20; (with_reducible refine (R31Has_any (.slice ga lg.length gc) lg _ _ hlg).mono ?_); rintro e w7 ⟨rfl, rfl⟩; rw [dg]) | (go_at_call 20; (with_reducible refine (R31Has_any (.slice la li.length lc) li _ _ hli).mono ?_); rintro e w8 ⟨rfl, rfl⟩; rw [dl]) | (at_builtin; refine wpList_append_own _ rfl _ _ 46 rfl w5.heap.size 53 i0 (.agg #[.int .i64 0, .int .i64 0]) 2 16 Tryz.underlying46 hi0 hz0 hz1 hz2 rfl (by decide) _ L.length (encL L) rfl (World.ownsRow.alloc (ownsRow_below Hown6.out kk6) _) ⟨w6.heap.size, 0, none⟩ 1 1 [.int .i64 (t), .int .i64 (t + B)] rfl rfl (cells_new w6 [.int .i64 (t), .int .i64 (t + B)] _) (by simp [Value.oneCell']) (by unfold maxLen; omega) (by omega) (by simp; omega) ?_; intro v9 w9 hown9 hg9 _))
         have hB9 : Below w5.heap.size w5 w9 := Below.grown (by ((with_reducible repeat' first | exact .refl _ _ | exact kk6 | exact HB6.out | refine .alloc ?_ ?_ _ | refine .setCell ?_ ?_ _ | refine .drew ?_ | refine below_drewN ?_ _ | refine Below.trans ?_ (kk6.mono ?_) | refine Below.trans ?_ (HB6.out.mono ?_)) <;> first | omega | simp <;> omega)) hg9 (by simp; omega) (fun r h => (Hlow.out r h).1)
         have hown10 : OwnIv w9 w5.heap.size v9 (L ++ [P k]) := by rw [HPk.out]; exact OwnP.app (by simpa using hown9)
         go_roundw
         case rel => exact ⟨k + 1, by omega, by go_num, by rw [Hsn.out]; exact hown10, Hv2, hB9⟩
         case measure => simp [intOf]; omega
        ·skip
         have dr : decide ((k : Int) < (rgt.length : Int)) = false := decide_eq_false (by omega)
         have dr2 : ¬ (k < rgt.length) := hr
         have eB : rgtP ws lft rgt k = 0 := by unfold rgtP; rw [if_neg hm, if_neg hr]
         have hPk : P k = (t, t) := by rw [HPk0.out, eA, eB]; simp
         have HPk := hide hPk
         clear eA eB hPk hm
         clear hr
         have kk6 : Below w6.heap.size w6 w6 := Below.refl _ _
         go_wp2_with (first | (go_at_call 20; (with_reducible refine (R31Has_any (.slice ga lg.length gc) lg _ _ hlg).mono ?_); rintro e w7 ⟨rfl, rfl⟩; rw [dg]) | (go_at_call 20; (with_reducible refine (R31Has_any (.slice la li.length lc) li _ _ hli).mono ?_); rintro e w8 ⟨rfl, rfl⟩; rw [dl]) | (at_builtin; refine wpList_append_own _ rfl _ _ 46 rfl w5.heap.size 53 i0 (.agg #[.int .i64 0, .int .i64 0]) 2 16 Tryz.underlying46 hi0 hz0 hz1 hz2 rfl (by decide) _ L.length (encL L) rfl (World.ownsRow.alloc (ownsRow_below Hown6.out kk6) _) ⟨w6.heap.size, 0, none⟩ 1 1 [.int .i64 (t), .int .i64 (t)] rfl rfl (cells_new w6 [.int .i64 (t), .int .i64 (t)] _) (by simp [Value.oneCell']) (by unfold maxLen; omega) (by omega) (by simp; omega) ?_; intro v9 w9 hown9 hg9 _))
         have hB9 : Below w5.heap.size w5 w9 := Below.grown (by ((with_reducible repeat' first | exact .refl _ _ | exact kk6 | exact HB6.out | refine .alloc ?_ ?_ _ | refine .setCell ?_ ?_ _ | refine .drew ?_ | refine below_drewN ?_ _ | refine Below.trans ?_ (kk6.mono ?_) | refine Below.trans ?_ (HB6.out.mono ?_)) <;> first | omega | simp <;> omega)) hg9 (by simp; omega) (fun r h => (Hlow.out r h).1)
         have hown10 : OwnIv w9 w5.heap.size v9 (L ++ [P k]) := by rw [HPk.out]; exact OwnP.app (by simpa using hown9)
         go_roundw
         case rel => exact ⟨k + 1, by omega, by go_num, by rw [Hsn.out]; exact hown10, Hv2, hB9⟩
         case measure => simp [intOf]; omega
   ·obtain rfl : k = use.length := by omega
    have hok : BhOk (wdL ps use) li lg t P := by
     rw [← Hws.out, HP.out]
     exact bhP_ok (fun i hi => (Hwb.out i (by omega)).1) (fun i hi h1 h2 => Hv.out i (by omega) h1 h2)
    have law := bh_law hrg HCh.out ht2 hok
    simp only at law
    rw [hLIM, hGG] at law
    obtain ⟨L, hL⟩ : ∃ L, L = bhL lg P use.length := ⟨_, rfl⟩
    rw [← hL] at law hown
    have hvr := hown.row
    obtain ⟨X, hX⟩ : ∃ X, cbLo L f = X := ⟨_, rfl⟩
    obtain ⟨Y, hY⟩ : ∃ Y, cbHi L f = Y := ⟨_, rfl⟩
    rw [hX, hY] at law
    obtain ⟨l0, l1, l2, l3, l4, l5⟩ := law
    obtain ⟨oa, ocap, hov, -, -⟩ := hown.val
    subst hov
    obtain ⟨hS, hC, hp, hu, hlf, hrt, hlz, hli, hlg, hb⟩ := HA.out wr hB
    have cS_0 := hS.1 0 _ rfl
    have cS_1 := hS.1 1 _ rfl
    have cS_2 := hS.1 2 _ rfl
    have cS_3 := hS.1 3 _ rfl
    have cS_4 := hS.1 4 _ rfl
    have zS := hS.2.2
    have cC_0 := hC.1 0 _ rfl
    have cC_1 := hC.1 1 _ rfl
    have zC := hC.2.2
    have hzb := hb.size
    have i1 : decide (X ≤ t) = true := decide_eq_true l1
    have i2 : decide (t ≤ Y) = true := decide_eq_true l2
    have i3 : decide (Y - X ≤ LIM - G) = true := decide_eq_true l3
    have wYX : IntKind.i64.wrap (Y - X) = Y - X := IntWalk.i64_in _ (by omega)
    have wLG : IntKind.i64.wrap (LIM - G) = LIM - G := IntWalk.i64_in _ (by omega)
    clear hok hown hL hB
    go_wp2_with (go_at_call 22; (with_reducible refine (Comb_val hX hY l0 _ _ hvr).mono ?_); rintro e w9 ⟨rfl, k9⟩; have z9 := k9.size)
    go_ret
    exact ⟨rfl, (by ((with_reducible repeat' first | exact .refl _ _ | exact k9 | exact hb | refine .alloc ?_ ?_ _ | refine .setCell ?_ ?_ _ | refine .drew ?_ | refine below_drewN ?_ _ | refine Below.trans ?_ (k9.mono ?_) | refine Below.trans ?_ (hb.mono ?_)) <;> first | omega | simp <;> omega))⟩
set_option maxRecDepth 100000 in
theorem certBehaviour_holds : Rows.CertBehaviourSaid :=
 OpenClaim.holds_of_wide 4 Tryz.f4 rfl rfl rfl rfl rfl rfl rfl ⟨rfl, rfl, rfl, rfl, rfl⟩ rfl rfl rfl rfl rfl (by kernel_rfl) Tryz.func4 (by kernel_rfl)
  (of_decide_eq_true (by kernel_rfl)) (by unfold Func.isWrapper; rw [if_neg (of_decide_eq_false (by kernel_rfl))]; exact ⟨rfl, rfl⟩)
  (fun os started H enc _ => law_lifted started 4 Tryz.f4 Tryz.func4 (by kernel_rfl) Rows.certBehaviourSpec rfl rfl
   (fun ds h => by match ds, h with | [_, _, _, _, _, _, _], _ => exact ⟨rfl, rfl, rfl⟩)
   (fun t h => by
    rw [Tryz.params4] at h
    simp only [List.mem_cons, List.not_mem_nil, or_false] at h
    rcases h with rfl | rfl | rfl | rfl | rfl | rfl | rfl <;> exact ⟨by kernel_rfl, of_decide_eq_true (by kernel_rfl)⟩)
   (ChangeSpec.witness6 (enc := enc) (C := Tryz.checked) false ⟨#[], #[.agg #[.int .i64 0, .int .i64 0, .int .i64 0, .int .i64 0, .slice none 0 0], .agg #[.slice none 0 0, .int .i64 0], .int .u16 0, .int .u64 0, .slice none 0 0, .slice none 0 0, .slice none 0 0], []⟩ 8 (by kernel_rfl) (by kernel_rfl) (by kernel_rfl) (by kernel_rfl))
   (fun W base args ds p hA hok => by
    rw [Tryz.params4] at hA hok
    obtain ⟨v0, vs0, d0, ds0, p0, q0, hargs, rfl, rfl, h0, r0⟩ := ChangeShapes.trodAll_cons hA
    obtain ⟨v1, vs1, d1, ds1, p1, q1, rfl, rfl, rfl, h1, r1⟩ := ChangeShapes.trodAll_cons r0
    obtain ⟨v2, vs2, d2, ds2, p2, q2, rfl, rfl, rfl, h2, r2⟩ := ChangeShapes.trodAll_cons r1
    obtain ⟨v3, vs3, d3, ds3, p3, q3, rfl, rfl, rfl, h3, r3⟩ := ChangeShapes.trodAll_cons r2
    obtain ⟨v4, vs4, d4, ds4, p4, q4, rfl, rfl, rfl, h4, r4⟩ := ChangeShapes.trodAll_cons r3
    obtain ⟨v5, vs5, d5, ds5, p5, q5, rfl, rfl, rfl, h5, r5⟩ := ChangeShapes.trodAll_cons r4
    obtain ⟨v6, vs6, d6, ds6, p6, q6, rfl, rfl, rfl, h6, r6⟩ := ChangeShapes.trodAll_cons r5
    obtain ⟨rfl, rfl, rfl⟩ := ChangeShapes.trodAll_nil r6
    obtain rfl : args = #[v0, v1, v2, v3, v4, v5, v6] := by rw [← Array.toArray_toList (xs := args), hargs]
    obtain ⟨l0, hl0⟩ := open_site (hok 0 _ v0 rfl rfl) h0
    obtain ⟨l1, hl1⟩ := open_sched (hok 1 _ v1 rfl rfl) h1
    obtain ⟨x2, rfl, hx2⟩ := open_u16 Tryz.underlying43 (hok 2 _ v2 rfl rfl) h2
    obtain ⟨x3, rfl, hx3⟩ := open_u64 Tryz.underlying44 (hok 3 _ v3 rfl rfl) h3
    obtain ⟨l4, hl4⟩ := open_u32s (hok 4 _ v4 rfl rfl) h4
    obtain ⟨l5, hl5⟩ := open_u32s (hok 5 _ v5 rfl rfl) h5
    obtain ⟨l6, hl6, wl6⟩ := open_ivs (hok 6 _ v6 rfl rfl) h6
    exact CtZ2_any W v0 l0 hl0 v1 l1 hl1 x2 hx2 x3 hx3 v4 l4 hl4 v5 l5 hl5 v6 l6 hl6))
end Go.Proofs.YtlmcoollkmhanaaGreat
