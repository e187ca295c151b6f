
/- For all sites, schedules, choices and times: the statement CertAttained answers true; without a condition. -/
import Derived.Test.YtlmcoollkmhanaaGreatCtYq
import Derived.Test.YtlmcoollkmhanaaGreatApz
namespace Go.Proofs.YtlmcoollkmhanaaGreat
open Go.RowKit

theorem Growth_val {r c G E : Int} (h1 : grw r c = G) (h2 : elEr r c = E) (w : World) : Calls Tryz.prog 18 #[.int .i64 r, .int .i64 c] w fun e w' => e = .returned (.tuple #[.int .i64 G, .int .i64 E]) ∧ Below w.heap.size w w' := by
 have h := wdGrowth_any r c w
 rw [h1, h2] at h
 exact h
theorem Comb_val {l : List Iv} {f X Y E : Int} (h1 : cbLo l f = X) (h2 : cbHi l f = Y) (h3 : cbEr l f = E) (v : Value) (w : World) (hv : IvRow w v l) :
  Calls Tryz.prog 22 #[v, .int .i64 f] w fun e w' => e = .returned (.tuple #[.agg #[.int .i64 X, .int .i64 Y], .int .i64 E]) ∧ Below w.heap.size w w' := by
 have h := Combine_any v l f w hv
 rw [h1, h2, h3] at h
 exact h
theorem Peer_val {r f lo tm : Int} {ps : List Pr} {i v E : Int} (h1 : pkW ⟨r, f, lo, tm, ps⟩ i = v) (h2 : pkE ⟨r, f, lo, tm, ps⟩ i = E) (pv : Value) (w : World) (hp : PrRow w pv ps) :
  Calls Tryz.prog 19 #[.agg #[.int .i64 r, .int .i64 f, .int .i64 lo, .int .i64 tm, pv], .int .i64 i] w fun e w' => e = .returned (.tuple #[.int .i64 v, .int .i64 E]) ∧ Below w.heap.size w w' := by
 have h := wdPeer_any r f lo tm pv ps i w hp
 rw [h1, h2] at h
 exact h
theorem Place_val {l : List Int} {f x : Int} {PL : List Iv} (h1 : placeEr l f 0 x = 0) (h2 : placeL l f 0 x = PL) (v : Value) (w : World) (hv : IsRow w v l) :
  Calls Tryz.prog 23 #[v, .int .i64 f, .int .i64 0, .int .i64 x] w fun e w' => ∃ ov, e = .returned (.tuple #[ov, .int .i64 0]) ∧ OwnIv w' w.heap.size ov PL ∧ Below w.heap.size w w' := by
 have h := Place_any v l f 0 x w hv
 unfold PlacePost at h
 rw [h1, h2] at h
 exact h
theorem Pick_val {l : List Int} {f : Int} {B : List Int} (h1 : spEr l f 0 = 0) (h2 : pickL l f 0 = B) (v : Value) (w : World) (hv : IsRow w v l) :
  Calls Tryz.prog 24 #[v, .int .i64 f, .int .i64 0] w fun e w' => ∃ v1 v2, e = .returned (.tuple #[v1, v2, .int .i64 0]) ∧ OwnIs w' w.heap.size v1 B ∧ Below w.heap.size w w' := by
 have h := Pick_any v l f 0 w hv
 unfold PickPost at h
 rw [h1, h2] at h
 refine h.mono ?_
 rintro e w' ⟨v1, v2, h3, h4, h5, h6⟩
 exact ⟨v1, v2, h3, h4, h6⟩
set_option maxRecDepth 100000 in
set_option maxHeartbeats 16000000 in
theorem CtZ4_any (w : World) (v0 : Value) (s : SiA) (hs : SiOk w v0 s) (v1 : Value) (c : ScA) (hc : ScOk w v1 c) (n : Int) (hn : 0 ≤ n ∧ n ≤ 65535) (at_ : Int) (hat : 0 ≤ at_ ∧ at_ ≤ 18446744073709551615) :
  Calls Tryz.prog 5 #[v0, v1, .int .u16 n, .int .u64 at_] w fun e w' => e = .returned (.bool true) ∧ Below w.heap.size w w' := by
 obtain ⟨r, f, lo, tm, pv, ps⟩ := s
 obtain ⟨rfl, hp, -, -⟩ := hs
 simp only at hp ⊢
 obtain ⟨pa, pc, rfl, -, -⟩ := hp.len
 obtain ⟨uv, use, ev⟩ := c
 obtain ⟨rfl, hu, -, hev⟩ := hc
 simp only at hu hev ⊢
 obtain ⟨ua, uc, rfl, -, -, -⟩ := id hu
 obtain ⟨W0, hW0⟩ : ∃ W : World, W = (w.alloc (.cells #[.int .i64 r, .int .i64 f, .int .i64 lo, .int .i64 tm, .slice pa ps.length pc] 24)).alloc (.cells #[.slice ua use.length uc, .int .i64 ev] 27) := ⟨_, rfl⟩
 obtain ⟨i0, hi0, hz0, hz1, hz2⟩ := info_parts infoInt
 have hb : Below w.heap.size w W0 := by rw [hW0]; ((with_reducible repeat' first | exact .refl _ _ | refine .alloc ?_ ?_ _ | refine .setCell ?_ ?_ _ | refine .drew ?_ | refine below_drewN ?_ _) <;> first | omega | simp <;> omega)
 have hS : BxC W0 w.heap.size [.int .i64 r, .int .i64 f, .int .i64 lo, .int .i64 tm, .slice pa ps.length pc] := by
  rw [hW0]
  exact (BxC.made w [.int .i64 r, .int .i64 f, .int .i64 lo, .int .i64 tm, .slice pa ps.length pc] 24).alloc _
 have hC : BxC W0 (w.heap.size + 1) [.slice ua use.length uc, .int .i64 ev] := by
  rw [hW0]
  have h_ := BxC.made (w.alloc (.cells #[.int .i64 r, .int .i64 f, .int .i64 lo, .int .i64 tm, .slice pa ps.length pc] 24)) [.slice ua use.length uc, .int .i64 ev] 27
  simp only [World.size_alloc] at h_
  exact h_
 have t_ := hp.below (Nat.le_refl _) hb; clear hp; have hp := t_; clear t_
 have t_ := hu.below (Nat.le_refl _) hb; clear hu; have hu := t_; clear t_
 cases hU : usB ⟨r, f, lo, tm, ps⟩ use ev with
 | false =>
  go_enter Tryz.func5, Tryz.ntmps5
  go_upto_region 1 with fail
  rw [← hW0]
  clear hW0
  have cS_0 := hS.1 0 _ rfl
  have cS_1 := hS.1 1 _ rfl
  have cS_2 := hS.1 2 _ rfl
  have cS_3 := hS.1 3 _ rfl
  have cS_4 := hS.1 4 _ rfl
  have zS := hS.2.2
  have cC_0 := hC.1 0 _ rfl
  have cC_1 := hC.1 1 _ rfl
  have zC := hC.2.2
  go_wp2_with (first | (go_at_call 6; (with_reducible refine (head31_any _).mono ?_); rintro e w1 ⟨rfl, k1⟩; clear cS_0 cS_1 cS_2 cS_3 cS_4 zS cC_0 cC_1 zC; have t_ := hS.below hS.2.2 k1; clear hS; have hS := t_; clear t_; have t_ := hC.below hC.2.2 k1; clear hC; have hC := t_; clear t_; have t_ := hp.below (Nat.le_refl _) k1; clear hp; have hp := t_; clear t_; have t_ := hu.below (Nat.le_refl _) k1; clear hu; have hu := t_; clear t_; have t_ := hb.trans (k1.mono hb.size); clear hb; have hb := t_; clear t_; clear k1; have cS_0 := hS.1 0 _ rfl; have cS_1 := hS.1 1 _ rfl; have cS_2 := hS.1 2 _ rfl; have cS_3 := hS.1 3 _ rfl; have cS_4 := hS.1 4 _ rfl; have zS := hS.2.2; have cC_0 := hC.1 0 _ rfl; have cC_1 := hC.1 1 _ rfl; have zC := hC.2.2) | (go_at_call 16; (with_reducible refine (usable_any r f lo tm _ ps _ use ev _ hp hu).mono ?_); rintro e w2 ⟨rfl, k2⟩; rw [hU]; clear cS_0 cS_1 cS_2 cS_3 cS_4 zS cC_0 cC_1 zC; have t_ := hS.below hS.2.2 k2; clear hS; have hS := t_; clear t_; have t_ := hC.below hC.2.2 k2; clear hC; have hC := t_; clear t_; have t_ := hp.below (Nat.le_refl _) k2; clear hp; have hp := t_; clear t_; have t_ := hu.below (Nat.le_refl _) k2; clear hu; have hu := t_; clear t_; have t_ := hb.trans (k2.mono hb.size); clear hb; have hb := t_; clear t_; clear k2; have cS_0 := hS.1 0 _ rfl; have cS_1 := hS.1 1 _ rfl; have cS_2 := hS.1 2 _ rfl; have cS_3 := hS.1 3 _ rfl; have cS_4 := hS.1 4 _ rfl; have zS := hS.2.2; have cC_0 := hC.1 0 _ rfl; have cC_1 := hC.1 1 _ rfl; have zC := hC.2.2))
  go_ret
  exact ⟨rfl, hb⟩
 | true =>
  obtain ⟨-, hrg, h8⟩ := (usB_iff _ _ _).1 hU
  have hel := rg_elOk hrg
  simp only at hel
  obtain ⟨G, hG⟩ : ∃ G, grw r (ev + tm) = G := ⟨_, rfl⟩
  have hE : elEr r (ev + tm) = 0 := by unfold elEr; rw [hel]; rfl
  have hsi := (siN_iff _).1 ((siB_iff _).1 ((rgB_iff _ _ _).1 hrg).1).1
  have hr2 := (rgB_iff _ _ _).1 hrg
  simp only at hsi hr2
  have hev2 := hr2.2.1
  have hgb := grw_bd hel
  rw [hG] at hgb
  have hGG : grw r (ev + tm) = G := hG
  have wt : IntKind.i64.wrap (ev + tm) = ev + tm := IntWalk.i64_in _ (by omega)
  obtain ⟨y, hy⟩ : ∃ y, at_ % 1000000000000 = y := ⟨_, rfl⟩
  have hy0 : 0 ≤ y ∧ y < 1000000000000 := by omega
  have wy : IntKind.i64.wrap y = y := IntWalk.i64_in _ (by omega)
  clear hr2
  go_enter Tryz.func5, Tryz.ntmps5
  go_upto_region 1 with fail
  rw [← hW0]
  clear hW0
  have cS_0 := hS.1 0 _ rfl
  have cS_1 := hS.1 1 _ rfl
  have cS_2 := hS.1 2 _ rfl
  have cS_3 := hS.1 3 _ rfl
  have cS_4 := hS.1 4 _ rfl
  have zS := hS.2.2
  have cC_0 := hC.1 0 _ rfl
  have cC_1 := hC.1 1 _ rfl
  have zC := hC.2.2
  go_upto_region 4 with (first | (go_at_call 6; (with_reducible refine (head31_any _).mono ?_); rintro e w1 ⟨rfl, k1⟩; clear cS_0 cS_1 cS_2 cS_3 cS_4 zS cC_0 cC_1 zC; have t_ := hS.below hS.2.2 k1; clear hS; have hS := t_; clear t_; have t_ := hC.below hC.2.2 k1; clear hC; have hC := t_; clear t_; have t_ := hp.below (Nat.le_refl _) k1; clear hp; have hp := t_; clear t_; have t_ := hu.below (Nat.le_refl _) k1; clear hu; have hu := t_; clear t_; have t_ := hb.trans (k1.mono hb.size); clear hb; have hb := t_; clear t_; clear k1; have cS_0 := hS.1 0 _ rfl; have cS_1 := hS.1 1 _ rfl; have cS_2 := hS.1 2 _ rfl; have cS_3 := hS.1 3 _ rfl; have cS_4 := hS.1 4 _ rfl; have zS := hS.2.2; have cC_0 := hC.1 0 _ rfl; have cC_1 := hC.1 1 _ rfl; have zC := hC.2.2) | (go_at_call 16; (with_reducible refine (usable_any r f lo tm _ ps _ use ev _ hp hu).mono ?_); rintro e w2 ⟨rfl, k2⟩; rw [hU]; clear cS_0 cS_1 cS_2 cS_3 cS_4 zS cC_0 cC_1 zC; have t_ := hS.below hS.2.2 k2; clear hS; have hS := t_; clear t_; have t_ := hC.below hC.2.2 k2; clear hC; have hC := t_; clear t_; have t_ := hp.below (Nat.le_refl _) k2; clear hp; have hp := t_; clear t_; have t_ := hu.below (Nat.le_refl _) k2; clear hu; have hu := t_; clear t_; have t_ := hb.trans (k2.mono hb.size); clear hb; have hb := t_; clear t_; clear k2; have cS_0 := hS.1 0 _ rfl; have cS_1 := hS.1 1 _ rfl; have cS_2 := hS.1 2 _ rfl; have cS_3 := hS.1 3 _ rfl; have cS_4 := hS.1 4 _ rfl; have zS := hS.2.2; have cC_0 := hC.1 0 _ rfl; have cC_1 := hC.1 1 _ rfl; have zC := hC.2.2))
  go_upto_region 5 with (go_at_call 17; (with_reducible refine (picked_any r f lo tm _ ps _ use ev n _ hp hu hrg h8 hn).mono ?_); rintro e w3 ⟨lv, gv, li, lg, rfl, ⟨hCh, hli, hlg⟩, k3⟩; obtain ⟨la, lc, hlv, -, -, -⟩ := id hli; subst hlv; obtain ⟨ga, gc, hgv, -, -, -⟩ := id hlg; subst hgv; clear cS_0 cS_1 cS_2 cS_3 cS_4 zS cC_0 cC_1 zC; have t_ := hS.below hS.2.2 k3; clear hS; have hS := t_; clear t_; have t_ := hC.below hC.2.2 k3; clear hC; have hC := t_; clear t_; have t_ := hp.below (Nat.le_refl _) k3; clear hp; have hp := t_; clear t_; have t_ := hu.below (Nat.le_refl _) k3; clear hu; have hu := t_; clear t_; have t_ := hb.trans (k3.mono hb.size); clear hb; have hb := t_; clear t_; clear k3; have cS_0 := hS.1 0 _ rfl; have cS_1 := hS.1 1 _ rfl; have cS_2 := hS.1 2 _ rfl; have cS_3 := hS.1 3 _ rfl; have cS_4 := hS.1 4 _ rfl; have zS := hS.2.2; have cC_0 := hC.1 0 _ rfl; have cC_1 := hC.1 1 _ rfl; have zC := hC.2.2)
  have hlV : lmV ⟨r, f, lo, tm, ps⟩ use ev li lg = lim ⟨r, f, lo, tm, ps⟩ use ev li lg := by unfold lmV lmB; rw [hrg, (coB_iff _ _ _ _).2 hCh]; rfl
  have hlE : lmE ⟨r, f, lo, tm, ps⟩ use ev li lg = 0 := by unfold lmE lmB; rw [hrg, (coB_iff _ _ _ _).2 hCh]; rfl
  obtain ⟨LIM, hLIM⟩ : ∃ L, lim ⟨r, f, lo, tm, ps⟩ use ev li lg = L := ⟨_, rfl⟩
  have hlb := lim_le hrg hCh
  have hwdb := wdt_bd31 hrg
  simp only at hlb
  rw [hLIM, hG] at hlb
  have hLb : 0 ≤ LIM ∧ LIM ≤ 4000000000000000 := by omega
  rw [hLIM] at hlV
  go_upto_region 6 with (go_at_call 14; (with_reducible refine (Limit_val hlV hlE _ _ _ _ _ hp hu hli hlg).mono ?_); rintro e w4 ⟨rfl, k4⟩; clear cS_0 cS_1 cS_2 cS_3 cS_4 zS cC_0 cC_1 zC; have t_ := hS.below hS.2.2 k4; clear hS; have hS := t_; clear t_; have t_ := hC.below hC.2.2 k4; clear hC; have hC := t_; clear t_; have t_ := hp.below (Nat.le_refl _) k4; clear hp; have hp := t_; clear t_; have t_ := hu.below (Nat.le_refl _) k4; clear hu; have hu := t_; clear t_; have t_ := hli.below (Nat.le_refl _) k4; clear hli; have hli := t_; clear t_; have t_ := hlg.below (Nat.le_refl _) k4; clear hlg; have hlg := t_; clear t_; have t_ := hb.trans (k4.mono hb.size); clear hb; have hb := t_; clear t_; clear k4; have cS_0 := hS.1 0 _ rfl; have cS_1 := hS.1 1 _ rfl; have cS_2 := hS.1 2 _ rfl; have cS_3 := hS.1 3 _ rfl; have cS_4 := hS.1 4 _ rfl; have zS := hS.2.2; have cC_0 := hC.1 0 _ rfl; have cC_1 := hC.1 1 _ rfl; have zC := hC.2.2)
  go_upto_region 8 with (go_at_call 18; (with_reducible refine (Growth_val hG hE _).mono ?_); rintro e w5 ⟨rfl, k5⟩; clear cS_0 cS_1 cS_2 cS_3 cS_4 zS cC_0 cC_1 zC; have t_ := hS.below hS.2.2 k5; clear hS; have hS := t_; clear t_; have t_ := hC.below hC.2.2 k5; clear hC; have hC := t_; clear t_; have t_ := hp.below (Nat.le_refl _) k5; clear hp; have hp := t_; clear t_; have t_ := hu.below (Nat.le_refl _) k5; clear hu; have hu := t_; clear t_; have t_ := hli.below (Nat.le_refl _) k5; clear hli; have hli := t_; clear t_; have t_ := hlg.below (Nat.le_refl _) k5; clear hlg; have hlg := t_; clear t_; have t_ := hb.trans (k5.mono hb.size); clear hb; have hb := t_; clear t_; clear k5; have cS_0 := hS.1 0 _ rfl; have cS_1 := hS.1 1 _ rfl; have cS_2 := hS.1 2 _ rfl; have cS_3 := hS.1 3 _ rfl; have cS_4 := hS.1 4 _ rfl; have zS := hS.2.2; have cC_0 := hC.1 0 _ rfl; have cC_1 := hC.1 1 _ rfl; have zC := hC.2.2)
  obtain ⟨ws, hws⟩ : ∃ ws, ws = wdL ps use := ⟨_, rfl⟩
  have hwl : ws.length = use.length := by rw [hws]; exact wdL_length _ _
  have hspz := (spOk_iff _ _ _).1 (rg_spOk hrg)
  have hwb : ∀ i, i < use.length → 0 ≤ iAt ws i ∧ iAt ws i ≤ 1000000000000 := fun i hi => by
   have := hspz.1.2 i (by rw [wdL_length]; exact hi)
   rw [hws]
   exact this
  have hpk : ∀ i, i < use.length → pkW ⟨r, f, lo, tm, ps⟩ (iAt use i) = iAt ws i ∧ pkE ⟨r, f, lo, tm, ps⟩ (iAt use i) = 0 := fun i hi => by
   have := pk_use hrg hi
   rw [hws]
   exact this
  have hf0 : 0 ≤ f ∧ f ≤ 16 := by have := hspz; rw [wdL_length] at this; omega
  have Hws := hide hws
  have Hwb := hide hwb
  have Hpk := hide hpk
  have HCh := hide hCh
  have HU := hide hU
  have hat0 : 0 ≤ at_ := hat.1
  clear hws hwb hpk hspz hCh hU hlV hlE hG hE hel hsi wt hat hn
  have HA := hide (fun (V : World) (hV : Below w5.heap.size w5 V) => And.intro (hS.below hS.2.2 hV) (And.intro (hC.below hC.2.2 hV) (And.intro (hp.below (Nat.le_refl _) hV) (And.intro (hu.below (Nat.le_refl _) hV) (And.intro (hli.below (Nat.le_refl _) hV) (And.intro (hlg.below (Nat.le_refl _) hV) (hb.trans (hV.mono hb.size))))))))
  go_wp2_with fail
  clear cS_0 cS_1 cS_2 cS_3 cS_4 zS cC_0 cC_1 zC hS hC hp hu hli hlg hb
  go_loopw [16, 67] (fun s16 s67 wx => ∃ k : Nat, k ≤ use.length ∧ s67 = .int .i64 k ∧ OwnIs wx w5.heap.size s16 (cwTo ws li lg k) ∧ Below w5.heap.size w5 wx) (fun _ s67 _ => use.length - (intOf s67).toNat)
  case atStart => exact ⟨0, Nat.zero_le _, rfl, OwnIs.nil _ _, Below.refl _ _⟩
  case round =>
   obtain ⟨k, hk, rfl, hown, hB⟩ := hrel
   by_cases hlt : k < use.length
   ·obtain ⟨hS, hC, hp, hu, hli, hlg, hb⟩ := HA.out wr hB
    obtain ⟨a', cap', e', -, -, g3⟩ := id hu
    obtain ⟨b, off, rfl, h4, h5⟩ := g3 k hlt
    cases e'
    have I1 : (0 : Int) ≤ (k : Int) := by omega
    have I2 : (k : Int) < (use.length : Int) := by omega
    clear g3
    have cS_0 := hS.1 0 _ rfl
    have cS_1 := hS.1 1 _ rfl
    have cS_2 := hS.1 2 _ rfl
    have cS_3 := hS.1 3 _ rfl
    have cS_4 := hS.1 4 _ rfl
    have zS := hS.2.2
    have cC_0 := hC.1 0 _ rfl
    have cC_1 := hC.1 1 _ rfl
    have zC := hC.2.2
    go_upto_region 12 with (go_at_call 19; (with_reducible refine (Peer_val (Hpk.out k hlt).1 (Hpk.out k hlt).2 _ _ hp).mono ?_); rintro e w6 ⟨rfl, k6⟩)
    have hzB := hB.size
    have B6 : Below w5.heap.size w5 w6 := hB.trans (k6.mono hzB)
    have hown6 := hown.below (Nat.le_refl _) k6
    clear hS hC hp hu hli hlg hb
    obtain ⟨hS, hC, hp, hu, hli, hlg, hb⟩ := HA.out w6 B6
    obtain ⟨W, hW⟩ : ∃ W, W = iAt ws k := ⟨_, rfl⟩
    rw [← hW]
    have hz6 := B6.size
    have HB6 := hide B6
    have HW := hide hW
    obtain ⟨L, hL⟩ : ∃ L, L = cwTo ws li lg k := ⟨_, rfl⟩
    have hLk : L.length ≤ k := by rw [hL]; exact cwTo_len ws li lg k
    rw [← hL] at hown6
    obtain ⟨oa, ocap, hov, -, -⟩ := hown6.val
    subst hov
    have Hlow := hide (World.ownsRow.lt hown6)
    have Hown6 := hide hown6
    have HL := hide hL
    clear hown hown6 B6 hL hB k6 hW hS hC hp hu
    by_cases hkl : (k : Int) ∈ li
    ·have dl : decide ((k : Int) ∈ li) = true := decide_eq_true hkl
     have Hsn := hide (cwTo_in1 (ws := ws) (lg := lg) hkl)
     rw [← HL.out] at Hsn
     clear hkl
     go_wp2_with (first | (go_at_call 20; (with_reducible refine (R31Has_any (.slice la li.length lc) li _ _ hli).mono ?_); rintro e w8 ⟨rfl, rfl⟩; rw [dl]) | (go_at_call 20; (with_reducible refine (R31Has_any (.slice ga lg.length gc) lg _ _ hlg).mono ?_); rintro e w7 ⟨rfl, rfl⟩; rw [dg]))
     go_roundw
     case rel => exact ⟨k + 1, by omega, by go_num, by rw [Hsn.out]; exact Hown6.out, HB6.out⟩
     case measure => simp [intOf]; omega
    ·have dl : decide ((k : Int) ∈ li) = false := decide_eq_false hkl
     by_cases hkg : (k : Int) ∈ lg
     ·have dg : decide ((k : Int) ∈ lg) = true := decide_eq_true hkg
      have Hsn := hide (cwTo_in2 (ws := ws) (li := li) hkg)
      rw [← HL.out] at Hsn
      clear hkl hkg
      go_wp2_with (first | (go_at_call 20; (with_reducible refine (R31Has_any (.slice la li.length lc) li _ _ hli).mono ?_); rintro e w8 ⟨rfl, rfl⟩; rw [dl]) | (go_at_call 20; (with_reducible refine (R31Has_any (.slice ga lg.length gc) lg _ _ hlg).mono ?_); rintro e w7 ⟨rfl, rfl⟩; rw [dg]))
      go_roundw
      case rel => exact ⟨k + 1, by omega, by go_num, by rw [Hsn.out]; exact Hown6.out, HB6.out⟩
      case measure => simp [intOf]; omega
     ·have dg : decide ((k : Int) ∈ lg) = false := decide_eq_false hkg
      have Hsn := hide (cwTo_out (ws := ws) hkl hkg)
      rw [← HL.out, ← HW.out] at Hsn
      clear hkl hkg
      go_wp2_with (first | (go_at_call 20; (with_reducible refine (R31Has_any (.slice la li.length lc) li _ _ hli).mono ?_); rintro e w8 ⟨rfl, rfl⟩; rw [dl]) | (go_at_call 20; (with_reducible refine (R31Has_any (.slice ga lg.length gc) lg _ _ hlg).mono ?_); rintro e w7 ⟨rfl, rfl⟩; rw [dg]) | (at_builtin; refine wpList_append_own _ rfl _ _ 25 rfl w5.heap.size 3 i0 (.int .i64 0) 1 8 Tryz.underlying25 hi0 hz0 hz1 hz2 rfl (by decide) _ L.length (encI L) rfl (World.ownsRow.alloc Hown6.out _) ⟨w6.heap.size, 0, none⟩ 1 1 [.int .i64 W] rfl rfl (cells_new w6 [.int .i64 W] _) (by simp [Value.oneCell']) (by unfold maxLen; omega) (by omega) (by simp; omega) ?_; intro v9 w9 hown9 hg9 _))
      have hB9 : Below w5.heap.size w5 w9 := Below.grown (by ((with_reducible repeat' first | exact .refl _ _ | exact HB6.out | refine .alloc ?_ ?_ _ | refine .setCell ?_ ?_ _ | refine .drew ?_ | refine below_drewN ?_ _ | refine Below.trans ?_ (HB6.out.mono ?_)) <;> first | omega | simp <;> omega)) hg9 (by simp; omega) (fun r h => (Hlow.out r h).1)
      have hown10 : OwnIs w9 w5.heap.size v9 (L ++ [W]) := OwnIs.app hown9
      go_roundw
      case rel => exact ⟨k + 1, by omega, by go_num, by rw [Hsn.out]; exact hown10, hB9⟩
      case measure => simp [intOf]; omega
   ·obtain rfl : k = use.length := by omega
    obtain ⟨L, hL⟩ : ∃ L, L = cwTo ws li lg use.length := ⟨_, rfl⟩
    have hLk : L.length ≤ use.length := by rw [hL]; exact cwTo_len ws li lg use.length
    have hat := at_ok31 hrg HCh.out
    simp only at hat
    rw [hLIM, hGG] at hat
    obtain ⟨AL, hAL⟩ : ∃ A, A = atL (wdL ps use) li lg f := ⟨_, rfl⟩
    rw [← hAL] at hat
    have hALe : AL = L ++ zsL f := by
     rw [hAL, hL]
     unfold atL cwL
     rw [← Hws.out, hwl]
    have law := at_law (t := 1000000000000 + y) hat.1 (by omega)
    have hpk2 := picks_len hat.1
    have hsE := spEr_ok hat.1
    rw [← hL] at hown
    obtain ⟨F, hFf⟩ : ∃ F : Nat, f = F := ⟨f.toNat, by omega⟩
    subst hFf
    obtain ⟨oa, ocap, hov, -, -⟩ := hown.val
    subst hov
    have hAll : AL.length = L.length + F := by rw [hALe, List.length_append]; simp [zsL]
    obtain ⟨hS, hC, hp, hu, hli, hlg, hb⟩ := HA.out wr hB
    have hzb := hb.size
    have hzB := hB.size
    obtain ⟨v6, w6, hrun, hown6, hg6⟩ := run_append_zeros (P := Tryz.prog) wr w5.heap.size 25 3 25 3 i0 (.int .i64 0) 8 .i64 .i64 Tryz.underlying25 Tryz.underlying3 hi0 hz0 hz1 hz2 rfl rfl _ L.length (encI L) hown F (by unfold maxLen; omega) (by omega) hzB
    have hlow := World.ownsRow.lt hown
    have B6 : Below w5.heap.size w5 w6 := Below.grown hB hg6 hzB (fun r h => (hlow r h).1)
    have hownA : OwnIs w6 w5.heap.size v6 AL := by
     unfold OwnIs
     rw [hAll, hALe]
     have e : encI (L ++ zsL F) = encI L ++ List.replicate F (.int .i64 0) := by unfold encI zsL; simp
     rw [e]
     exact hown6
    have hzr := hownA.row
    obtain ⟨xa, xcap, hv6, -, -⟩ := hownA.val
    subst hv6
    have hoF : 0 ≤ (F : Int) := by omega
    have wLF : IntKind.i64.wrap ((L.length : Int) + (F : Int)) = (L.length : Int) + (F : Int) := IntWalk.i64_in _ (by omega)
    have hl6 := hlow
    have HAll := hide hAll
    clear hown hown6 hownA hg6 hlow hl6 hB hL hAL hoF hAll hALe
    have cS_0 := hS.1 0 _ rfl
    have cS_1 := hS.1 1 _ rfl
    have cS_2 := hS.1 2 _ rfl
    have cS_3 := hS.1 3 _ rfl
    have cS_4 := hS.1 4 _ rfl
    have zS := hS.2.2
    have cC_0 := hC.1 0 _ rfl
    have cC_1 := hC.1 1 _ rfl
    have zC := hC.2.2
    go_upto_region 20 with (at_builtin; refine Lib.wpList_append_run _ rfl _ _ _ _ rfl _ _ rfl rfl _ _ hrun ?_)
    clear hS hC hp hu hli hlg hb
    obtain ⟨hS, hC, hp, hu, hli, hlg, hb⟩ := HA.out w6 B6
    obtain ⟨t, ht⟩ : ∃ t, t = 1000000000000 + y := ⟨_, rfl⟩
    rw [← ht]
    rw [← ht] at law
    have ht2 : 1000000000000 ≤ t ∧ t ≤ 2000000000000 := by omega
    obtain ⟨lw1, lw2, lw3, lw4, lw5⟩ := law
    obtain ⟨PL, hPL⟩ : ∃ P, placeL AL (F : Int) 0 t = P := ⟨_, rfl⟩
    rw [hPL] at lw2 lw3 lw4 lw5
    rw [hat.2.1] at lw4
    obtain ⟨X, hX⟩ : ∃ X, cbLo PL (F : Int) = X := ⟨_, rfl⟩
    obtain ⟨Y, hY⟩ : ∃ Y, cbHi PL (F : Int) = Y := ⟨_, rfl⟩
    rw [hX, hY] at lw4
    obtain ⟨BD, hBD⟩ : ∃ B, pickL AL (F : Int) 0 = B := ⟨_, rfl⟩
    rw [hBD] at lw5 hpk2
    have hAb := (spOk_iff _ _ _).1 hat.1
    have d1 : ((PL.length : Int) != (L.length : Int) + (F : Int)) = false := by rw [lw2, HAll.out]; simp
    have d2 : ((Y - X) != (LIM - G)) = false := by rw [lw4]; simp
    have wYX : IntKind.i64.wrap (Y - X) = Y - X := by rw [lw4]; exact IntWalk.i64_in _ (by omega)
    have wLG : IntKind.i64.wrap (LIM - G) = LIM - G := IntWalk.i64_in _ (by omega)
    have dB : ((BD.length : Int) == (F : Int)) = true := by rw [hpk2.1]; simp
    have hPLn : PL.length ≤ 100 := by have := HAll.out; omega
    have Hlw2 := hide lw2
    have Hlw5 := hide lw5
    have HAb := hide hAb
    have HX := hide hX
    have HY := hide hY
    clear ht lw2 lw4 lw5 hpk2 hat hAb hy hy0 wy hzb hzB
    have cS_0 := hS.1 0 _ rfl
    have cS_1 := hS.1 1 _ rfl
    have cS_2 := hS.1 2 _ rfl
    have cS_3 := hS.1 3 _ rfl
    have cS_4 := hS.1 4 _ rfl
    have zS := hS.2.2
    have cC_0 := hC.1 0 _ rfl
    have cC_1 := hC.1 1 _ rfl
    have zC := hC.2.2
    go_upto_region 21 with (go_at_call 23; (with_reducible refine (Place_val lw1 hPL _ _ hzr).mono ?_); rintro e w1 ⟨ov, rfl, hpo, k1⟩; have hpl := hpo.row; clear hpo; obtain ⟨pa7, pc7, hov7, -, -, -⟩ := id hpl; subst hov7; clear cS_0 cS_1 cS_2 cS_3 cS_4 zS cC_0 cC_1 zC; have t_ := hS.below hS.2.2 k1; clear hS; have hS := t_; clear t_; have t_ := hC.below hC.2.2 k1; clear hC; have hC := t_; clear t_; have t_ := hp.below (Nat.le_refl _) k1; clear hp; have hp := t_; clear t_; have t_ := hu.below (Nat.le_refl _) k1; clear hu; have hu := t_; clear t_; have t_ := hli.below (Nat.le_refl _) k1; clear hli; have hli := t_; clear t_; have t_ := hlg.below (Nat.le_refl _) k1; clear hlg; have hlg := t_; clear t_; have t_ := hzr.below (Nat.le_refl _) k1; clear hzr; have hzr := t_; clear t_; have t_ := hb.trans (k1.mono hb.size); clear hb; have hb := t_; clear t_; clear k1; have cS_0 := hS.1 0 _ rfl; have cS_1 := hS.1 1 _ rfl; have cS_2 := hS.1 2 _ rfl; have cS_3 := hS.1 3 _ rfl; have cS_4 := hS.1 4 _ rfl; have zS := hS.2.2; have cC_0 := hC.1 0 _ rfl; have cC_1 := hC.1 1 _ rfl; have zC := hC.2.2)
    go_upto_region 22 with (go_at_call 22; (with_reducible refine (Comb_val hX hY lw3 _ _ hpl).mono ?_); rintro e w2 ⟨rfl, k2⟩; clear cS_0 cS_1 cS_2 cS_3 cS_4 zS cC_0 cC_1 zC; have t_ := hS.below hS.2.2 k2; clear hS; have hS := t_; clear t_; have t_ := hC.below hC.2.2 k2; clear hC; have hC := t_; clear t_; have t_ := hp.below (Nat.le_refl _) k2; clear hp; have hp := t_; clear t_; have t_ := hu.below (Nat.le_refl _) k2; clear hu; have hu := t_; clear t_; have t_ := hli.below (Nat.le_refl _) k2; clear hli; have hli := t_; clear t_; have t_ := hlg.below (Nat.le_refl _) k2; clear hlg; have hlg := t_; clear t_; have t_ := hzr.below (Nat.le_refl _) k2; clear hzr; have hzr := t_; clear t_; have t_ := hpl.below (Nat.le_refl _) k2; clear hpl; have hpl := t_; clear t_; have t_ := hb.trans (k2.mono hb.size); clear hb; have hb := t_; clear t_; clear k2; have cS_0 := hS.1 0 _ rfl; have cS_1 := hS.1 1 _ rfl; have cS_2 := hS.1 2 _ rfl; have cS_3 := hS.1 3 _ rfl; have cS_4 := hS.1 4 _ rfl; have zS := hS.2.2; have cC_0 := hC.1 0 _ rfl; have cC_1 := hC.1 1 _ rfl; have zC := hC.2.2)
    obtain ⟨W3, hW3⟩ : ∃ V : World, V = w2.alloc (.cells #[.int .i64 X, .int .i64 Y] 53) := ⟨_, rfl⟩
    rw [← hW3]
    clear cS_0 cS_1 cS_2 cS_3 cS_4 zS cC_0 cC_1 zC
    have a3 : Below w2.heap.size w2 W3 := by rw [hW3]; ((with_reducible repeat' first | exact .refl _ _ | refine .alloc ?_ ?_ _ | refine .setCell ?_ ?_ _ | refine .drew ?_ | refine below_drewN ?_ _) <;> first | omega | simp <;> omega)
    have hQ : BxC W3 (w2.heap.size) [.int .i64 X, .int .i64 Y] := by
     rw [hW3]
     have h_ := BxC.made (w2) [.int .i64 X, .int .i64 Y] 53
     exact h_
    have t_ := hS.below hS.2.2 a3; clear hS; have hS := t_; clear t_
    have t_ := hC.below hC.2.2 a3; clear hC; have hC := t_; clear t_
    have t_ := hp.below (Nat.le_refl _) a3; clear hp; have hp := t_; clear t_
    have t_ := hu.below (Nat.le_refl _) a3; clear hu; have hu := t_; clear t_
    have t_ := hli.below (Nat.le_refl _) a3; clear hli; have hli := t_; clear t_
    have t_ := hlg.below (Nat.le_refl _) a3; clear hlg; have hlg := t_; clear t_
    have t_ := hzr.below (Nat.le_refl _) a3; clear hzr; have hzr := t_; clear t_
    have t_ := hpl.below (Nat.le_refl _) a3; clear hpl; have hpl := t_; clear t_
    have t_ := hb.trans (a3.mono hb.size); clear hb; have hb := t_; clear t_
    clear hW3 a3
    have cS_0 := hS.1 0 _ rfl
    have cS_1 := hS.1 1 _ rfl
    have cS_2 := hS.1 2 _ rfl
    have cS_3 := hS.1 3 _ rfl
    have cS_4 := hS.1 4 _ rfl
    have zS := hS.2.2
    have cC_0 := hC.1 0 _ rfl
    have cC_1 := hC.1 1 _ rfl
    have zC := hC.2.2
    have cQ_0 := hQ.1 0 _ rfl
    have cQ_1 := hQ.1 1 _ rfl
    have zQ := hQ.2.2
    go_upto_region 25 with (go_at_call 24; (with_reducible refine (Pick_val hsE hBD _ _ hzr).mono ?_); rintro e w4 ⟨bv, gv2, rfl, hbo, k4⟩; have hbd := hbo.row; clear hbo; obtain ⟨ba, bc, hbv, -⟩ := id hbd; subst hbv; clear cS_0 cS_1 cS_2 cS_3 cS_4 zS cC_0 cC_1 zC cQ_0 cQ_1 zQ; have t_ := hS.below hS.2.2 k4; clear hS; have hS := t_; clear t_; have t_ := hC.below hC.2.2 k4; clear hC; have hC := t_; clear t_; have t_ := hQ.below hQ.2.2 k4; clear hQ; have hQ := t_; clear t_; have t_ := hp.below (Nat.le_refl _) k4; clear hp; have hp := t_; clear t_; have t_ := hu.below (Nat.le_refl _) k4; clear hu; have hu := t_; clear t_; have t_ := hli.below (Nat.le_refl _) k4; clear hli; have hli := t_; clear t_; have t_ := hlg.below (Nat.le_refl _) k4; clear hlg; have hlg := t_; clear t_; have t_ := hzr.below (Nat.le_refl _) k4; clear hzr; have hzr := t_; clear t_; have t_ := hpl.below (Nat.le_refl _) k4; clear hpl; have hpl := t_; clear t_; have t_ := hb.trans (k4.mono hb.size); clear hb; have hb := t_; clear t_; clear k4; have cS_0 := hS.1 0 _ rfl; have cS_1 := hS.1 1 _ rfl; have cS_2 := hS.1 2 _ rfl; have cS_3 := hS.1 3 _ rfl; have cS_4 := hS.1 4 _ rfl; have zS := hS.2.2; have cC_0 := hC.1 0 _ rfl; have cC_1 := hC.1 1 _ rfl; have zC := hC.2.2; have cQ_0 := hQ.1 0 _ rfl; have cQ_1 := hQ.1 1 _ rfl; have zQ := hQ.2.2)
    have HB := hide (fun (V : World) (hV : Below w4.heap.size w4 V) => And.intro (hS.below hS.2.2 hV) (And.intro (hC.below hC.2.2 hV) (And.intro (hQ.below hQ.2.2 hV) (And.intro (hp.below (Nat.le_refl _) hV) (And.intro (hu.below (Nat.le_refl _) hV) (And.intro (hli.below (Nat.le_refl _) hV) (And.intro (hlg.below (Nat.le_refl _) hV) (And.intro (hzr.below (Nat.le_refl _) hV) (And.intro (hpl.below (Nat.le_refl _) hV) (And.intro (hbd.below (Nat.le_refl _) hV) (hb.trans (hV.mono hb.size))))))))))))
    clear cS_0 cS_1 cS_2 cS_3 cS_4 zS cC_0 cC_1 zC cQ_0 cQ_1 zQ hS hC hQ hp hu hli hlg hzr hpl hbd hb
    go_wp2_with fail
    go_loopw [9, 168] (fun s9 s168 wx => ∃ k : Nat, k ≤ PL.length ∧ s168 = .int .i64 k ∧ s9 = .bool true ∧ Below w4.heap.size w4 wx) (fun _ s168 _ => PL.length - (intOf s168).toNat)
    case atStart => exact ⟨0, Nat.zero_le _, rfl, rfl, Below.refl _ _⟩
    case round =>
     obtain ⟨k, hk, rfl, rfl, hB⟩ := hrel
     obtain ⟨hS, hC, hQ, hp, hu, hli, hlg, hzr, hpl, hbd, hb⟩ := HB.out wr hB
     have hzb := hb.size
     have hzB := hB.size
     by_cases hlt : k < PL.length
     ·obtain ⟨p', pc', e', -, -, g3⟩ := id hpl
      obtain ⟨qb, qo, rfl, g4, g5, g6⟩ := g3 k hlt
      cases e'
      have hka : k < AL.length := by rw [← Hlw2.out]; exact hlt
      obtain ⟨x', xc', e', -, -, j3⟩ := id hzr
      obtain ⟨zb, zo, rfl, j4, j5⟩ := j3 k hka
      cases e'
      have hlw : (k : Int) ∉ BD → iLo PL k ≤ t ∧ t ≤ iHi PL k ∧ iHi PL k - iLo PL k = iAt AL k := fun h => Hlw5.out k hka h
      have hwk := HAb.out.1.2 k hka
      generalize iLo PL k = A at *
      generalize iHi PL k = B at *
      generalize iAt AL k = Wk at *
      have I1 : (0 : Int) ≤ (k : Int) := by omega
      have I2 : (k : Int) < (PL.length : Int) := by omega
      have I3 : (k : Int) < (AL.length : Int) := by omega
      clear g3 j3
      by_cases hkb : (k : Int) ∈ BD
      ·have db : decide ((k : Int) ∈ BD) = true := decide_eq_true hkb
       clear hkb hlw
       go_wp2_with fail
       go_quiet ((go_at_call 20; exact Calls.quiet_of_same ((R31Has_any (.slice ba BD.length bc) BD (k : Int) _ (hbd.below (Nat.le_refl _) (by ((with_reducible repeat' first | exact .refl _ _ | refine .alloc ?_ ?_ _ | refine .setCell ?_ ?_ _ | refine .drew ?_ | refine below_drewN ?_ _) <;> first | omega | simp <;> omega)))).mono (by rintro e w' ⟨rfl, rfl⟩; exact ⟨by rw [db], rfl⟩))))
       go_wp2_with fail
       go_roundw
       case rel => exact ⟨k + 1, by omega, by go_num, rfl, (by ((with_reducible repeat' first | exact .refl _ _ | exact hB | refine .alloc ?_ ?_ _ | refine .setCell ?_ ?_ _ | refine .drew ?_ | refine below_drewN ?_ _ | refine Below.trans ?_ (hB.mono ?_)) <;> first | omega | simp <;> omega))⟩
       case measure => simp [intOf]; omega
      ·have db : decide ((k : Int) ∈ BD) = false := decide_eq_false hkb
       obtain ⟨lw1', lw2', lw3'⟩ := hlw hkb
       have i1 : decide (A ≤ t) = true := decide_eq_true lw1'
       have i2 : decide (t ≤ B) = true := decide_eq_true lw2'
       have i3 : ((B - A) == Wk) = true := by rw [beq_iff_eq]; exact lw3'
       have wBA : IntKind.i64.wrap (B - A) = B - A := IntWalk.i64_in _ (by omega)
       clear hkb hlw lw3'
       go_wp2_with fail
       go_quiet ((go_at_call 20; exact Calls.quiet_of_same ((R31Has_any (.slice ba BD.length bc) BD (k : Int) _ (hbd.below (Nat.le_refl _) (by ((with_reducible repeat' first | exact .refl _ _ | refine .alloc ?_ ?_ _ | refine .setCell ?_ ?_ _ | refine .drew ?_ | refine below_drewN ?_ _) <;> first | omega | simp <;> omega)))).mono (by rintro e w' ⟨rfl, rfl⟩; exact ⟨by rw [db], rfl⟩))))
       go_wp2_with fail
       go_roundw
       case rel => exact ⟨k + 1, by omega, by go_num, rfl, (by ((with_reducible repeat' first | exact .refl _ _ | exact hB | refine .alloc ?_ ?_ _ | refine .setCell ?_ ?_ _ | refine .drew ?_ | refine below_drewN ?_ _ | refine Below.trans ?_ (hB.mono ?_)) <;> first | omega | simp <;> omega))⟩
       case measure => simp [intOf]; omega
     ·obtain rfl : k = PL.length := by omega
      have cS_0 := hS.1 0 _ rfl
      have cS_1 := hS.1 1 _ rfl
      have cS_2 := hS.1 2 _ rfl
      have cS_3 := hS.1 3 _ rfl
      have cS_4 := hS.1 4 _ rfl
      have zS := hS.2.2
      have cC_0 := hC.1 0 _ rfl
      have cC_1 := hC.1 1 _ rfl
      have zC := hC.2.2
      have cQ_0 := hQ.1 0 _ rfl
      have cQ_1 := hQ.1 1 _ rfl
      have zQ := hQ.2.2
      go_wp2_with fail
      go_ret
      exact ⟨rfl, (by ((with_reducible repeat' first | exact .refl _ _ | exact hb | refine .alloc ?_ ?_ _ | refine .setCell ?_ ?_ _ | refine .drew ?_ | refine below_drewN ?_ _ | refine Below.trans ?_ (hb.mono ?_)) <;> first | omega | simp <;> omega))⟩
set_option maxRecDepth 100000 in
theorem certAttained_holds : Rows.CertAttainedSaid :=
 OpenClaim.holds_of_wide 5 Tryz.f5 rfl rfl rfl rfl rfl rfl rfl ⟨rfl, rfl, rfl, rfl, rfl⟩ rfl rfl rfl rfl rfl (by kernel_rfl) Tryz.func5 (by kernel_rfl)
  (of_decide_eq_true (by kernel_rfl)) (by unfold Func.isWrapper; rw [if_neg (of_decide_eq_false (by kernel_rfl))]; exact ⟨rfl, rfl⟩)
  (fun os started H enc _ => law_lifted started 5 Tryz.f5 Tryz.func5 (by kernel_rfl) Rows.certAttainedSpec rfl rfl
   (fun ds h => by match ds, h with | [_, _, _, _], _ => exact ⟨rfl, rfl, rfl⟩)
   (fun t h => by
    rw [Tryz.params5] at h
    simp only [List.mem_cons, List.not_mem_nil, or_false] at h
    rcases h with rfl | rfl | rfl | rfl <;> exact ⟨by kernel_rfl, of_decide_eq_true (by kernel_rfl)⟩)
   (ChangeSpec.witness6 (enc := enc) (C := Tryz.checked) false ⟨#[], #[.agg #[.int .i64 0, .int .i64 0, .int .i64 0, .int .i64 0, .slice none 0 0], .agg #[.slice none 0 0, .int .i64 0], .int .u16 0, .int .u64 0], []⟩ 8 (by kernel_rfl) (by kernel_rfl) (by kernel_rfl) (by kernel_rfl))
   (fun W base args ds p hA hok => by
    rw [Tryz.params5] at hA hok
    obtain ⟨v0, vs0, d0, ds0, p0, q0, hargs, rfl, rfl, h0, r0⟩ := ChangeShapes.trodAll_cons hA
    obtain ⟨v1, vs1, d1, ds1, p1, q1, rfl, rfl, rfl, h1, r1⟩ := ChangeShapes.trodAll_cons r0
    obtain ⟨v2, vs2, d2, ds2, p2, q2, rfl, rfl, rfl, h2, r2⟩ := ChangeShapes.trodAll_cons r1
    obtain ⟨v3, vs3, d3, ds3, p3, q3, rfl, rfl, rfl, h3, r3⟩ := ChangeShapes.trodAll_cons r2
    obtain ⟨rfl, rfl, rfl⟩ := ChangeShapes.trodAll_nil r3
    obtain rfl : args = #[v0, v1, v2, v3] := by rw [← Array.toArray_toList (xs := args), hargs]
    obtain ⟨l0, hl0⟩ := open_site (hok 0 _ v0 rfl rfl) h0
    obtain ⟨l1, hl1⟩ := open_sched (hok 1 _ v1 rfl rfl) h1
    obtain ⟨x2, rfl, hx2⟩ := open_u16 Tryz.underlying43 (hok 2 _ v2 rfl rfl) h2
    obtain ⟨x3, rfl, hx3⟩ := open_u64 Tryz.underlying44 (hok 3 _ v3 rfl rfl) h3
    exact CtZ4_any W v0 l0 hl0 v1 l1 hl1 x2 hx2 x3 hx3))
end Go.Proofs.YtlmcoollkmhanaaGreat
