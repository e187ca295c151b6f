/- Package commit: Show. -/
import Derived.Test.YthkoaecafmhlcaaGreatTsO
namespace Go.Proofs.YthkoaecafmhlcaaGreat
open Go.RowKit
attribute [local go_sem ↓] run_max_mx run_min_mn
attribute [local simp] size_drewT

theorem TxR.take {w : World} {a : Option Addr} {n cap : Nat} {l : List Tx} (h : TxR w (.slice a n cap) l) (m : Nat) (hm : m ≤ l.length) : TxR w (.slice a m cap) (l.take m) := by
 obtain ⟨xs, rfl, h2, h3⟩ := h
 rw [List.length_map] at hm
 exact ⟨xs.take m, by rw [List.map_take], h2.take m hm, fun x hx => h3 x (List.mem_of_mem_take hx)⟩
theorem TxR.drop {w : World} {b off n cap : Nat} {l : List Tx} (h : TxR w (.slice (some ⟨b, off, none⟩) n cap) l) (m k : Nat) (hm : m ≤ l.length) (hk : k = off + m * 4) : TxR w (.slice (some ⟨b, k, none⟩) (l.length - m) (cap - m)) (l.drop m) := by
 obtain ⟨xs, rfl, h2, h3⟩ := h
 rw [List.length_map] at hm ⊢
 exact ⟨xs.drop m, by rw [List.map_drop], h2.drop m k hm hk, fun x hx => h3 x (List.mem_of_mem_drop hx)⟩
theorem TxR.empty (w : World) (a : Option Addr) (cap : Nat) (hc : cap ≤ 9223372036854775807) : TxR w (.slice a 0 cap) [] := ⟨[], rfl, rws_empty w a cap hc, fun x hx => by simp at hx⟩
def ShV (O : List Tx) (k j : Nat) : List Ver := evs (O.take k) ++ (vers (txAt O k)).take j
theorem shV_zero (O : List Tx) (k : Nat) : ShV O k 0 = evs (O.take k) := by simp [ShV]
theorem shV_next {O : List Tx} {k : Nat} (h : k < O.length) : ShV O k (vers (txAt O k)).length = ShV O (k + 1) 0 := by
 unfold ShV
 rw [List.take_length, List.take_zero, List.append_nil, take_snocT O tx0 k h, evs_append]
 simp [evs, txAt]
theorem shV_sub {O : List Tx} {k j : Nat} (h : k < O.length) : (ShV O k j).Sublist (evs O) := by
 have e : evs O = evs (O.take k) ++ (vers (txAt O k) ++ evs (O.drop (k + 1))) := by
  have h1 := drop_consT O tx0 k h
  have h2 : evs (O.drop k) = vers (txAt O k) ++ evs (O.drop (k + 1)) := by rw [h1]; rfl
  rw [← h2, ← evs_append, List.take_append_drop]
 rw [e]
 exact List.Sublist.append (List.Sublist.refl _) ((List.take_sublist _ _).trans (List.sublist_append_left _ _))
theorem sh_step {L : Ld} (hL : VL L) {k j : Nat} (hk : k < L.opn.length) (hj : j < (vers (txAt L.opn k)).length) :
  StOk (stF L.st (ShV L.opn k j)) ∧ WfV (vAt (vers (txAt L.opn k)) j) ∧ (∀ x, x ∈ stF L.st (ShV L.opn k j) → x.key = (vAt (vers (txAt L.opn k)) j).key → x.ts < (vAt (vers (txAt L.opn k)) j).ts) ∧ (stF L.st (ShV L.opn k j)).length < 4000 ∧
  putV (stF L.st (ShV L.opn k j)) (vAt (vers (txAt L.opn k)) j) = stF L.st (ShV L.opn k (j + 1)) := by
 obtain ⟨h1, h2, h3, h4, h5, h6, h7, h8, h9⟩ := hL
 have hsn : ShV L.opn k (j + 1) = ShV L.opn k j ++ [vAt (vers (txAt L.opn k)) j] := by
  unfold ShV
  rw [take_snocT (vers (txAt L.opn k)) ver0 j hj, List.append_assoc]
  rfl
 have hsub := shV_sub (O := L.opn) (k := k) (j := j) hk
 have hsub2 := shV_sub (O := L.opn) (k := k) (j := j + 1) hk
 have hp := (evs_pair h6).sublist hsub
 have hp2 := (evs_pair h6).sublist hsub2
 have hx : ∀ x, x ∈ L.st → ∀ b, b ∈ evs L.opn → PairV x b := fun x hx b hb => by
  obtain ⟨t, ht, hb⟩ := mem_evs hb
  have := h7 t ht x hx
  have := mem_vers_ts hb
  exact ⟨by omega, fun _ => by omega⟩
 obtain ⟨s1, s2, s3⟩ := stF_ok (ShV L.opn k j) L.st h1 hp (fun x hx' b hb => hx x hx' b (hsub.subset hb))
 have hv : vAt (vers (txAt L.opn k)) j ∈ evs L.opn := hsub2.subset (by rw [hsn]; simp)
 have hlen : (ShV L.opn k (j + 1)).length ≤ (evs L.opn).length := hsub2.length_le
 rw [hsn, List.length_append] at hlen
 simp only [List.length_singleton] at hlen
 have hnw : nwr L.opn = (evs L.opn).length := rfl
 refine ⟨⟨s1, fun x hx' => ?_, by omega⟩, evs_wf h6 _ hv, fun x hx' hk' => ?_, by omega, by rw [hsn, stF_snoc]⟩
 ·rcases (s2 x).1 hx' with h | h
  ·exact h2 x h
  ·exact evs_wf h6 x (hsub.subset h)
 ·rcases (s2 x).1 hx' with h | h
  ·exact (hx x h _ hv).2 hk'
  ·rw [hsn] at hp2
   exact ((List.pairwise_append.1 hp2).2.2 x h _ (by simp)).2 hk'
theorem sh_len {L : Ld} (hL : VL L) (k : Nat) : (stF L.st (evs (L.opn.take k))).length ≤ 4000 := by
 obtain ⟨h1, h2, h3, h4, h5, h6, h7, h8, h9⟩ := hL
 have hsub : (evs (L.opn.take k)).Sublist (evs L.opn) := by
  have e : evs L.opn = evs (L.opn.take k) ++ evs (L.opn.drop k) := by rw [← evs_append, List.take_append_drop]
  rw [e]
  exact List.sublist_append_left _ _
 have s := stF_ok (evs (L.opn.take k)) L.st h1 ((evs_pair h6).sublist hsub) (fun x hx b hb => by
  obtain ⟨t, ht, hb⟩ := mem_evs (hsub.subset hb)
  have := h7 t ht x hx
  have := mem_vers_ts hb
  exact ⟨by omega, fun _ => by omega⟩)
 have hl := hsub.length_le
 have hnw : nwr L.opn = (evs L.opn).length := rfl
 have := s.2.2
 omega
def ShowPost (w : World) (L : Ld) (lo : Int) (e : Ending) (w' : World) : Prop :=
 (∃ (n : Nat) (stv' opv' tv' : Value), e = .returned (.tuple #[valL stv' opv' L.last, tv', .int .i64 0]) ∧ n ≤ L.opn.length ∧ (∀ t, t ∈ L.opn.take n → t.ts < lo) ∧ (∀ t, t ∈ L.opn.drop n → lo ≤ t.ts) ∧
  Owns 64 encVr 4 w' w.heap.size stv' (stF L.st (evs (L.opn.take n))) ∧ OwnTx w' w.heap.size opv' (L.opn.drop n)) ∧ Below w.heap.size w w'
theorem ShowPost.mk {w : World} {L : Ld} {lo : Int} {e : Ending} {w' : World} (n : Nat) (stv' opv' tv' : Value) (he : e = .returned (.tuple #[valL stv' opv' L.last, tv', .int .i64 0])) (h1 : n ≤ L.opn.length ∧ (∀ t, t ∈ L.opn.take n → t.ts < lo) ∧ ∀ t, t ∈ L.opn.drop n → lo ≤ t.ts)
  (h2 : Owns 64 encVr 4 w' w.heap.size stv' (stF L.st (evs (L.opn.take n)))) (h3 : OwnTx w' w.heap.size opv' (L.opn.drop n)) (hB : Below w.heap.size w w') : ShowPost w L lo e w' := ⟨⟨n, stv', opv', tv', he, h1.1, h1.2.1, h1.2.2, h2, h3⟩, hB⟩
set_option maxRecDepth 100000 in
set_option maxHeartbeats 4000000 in
theorem Show_any (stv opv : Value) (L : Ld) (lo hi : Int) (w : World) (h : LdRd w stv opv L) (hL : VL L) (hO8 : L.opn.length ≤ 100) (hop : opv = .slice none 0 0 ∨ ∃ b n cap, opv = .slice (some ⟨b, 0, none⟩) n cap) (hv : validB lo hi = true) :
  Calls Tryz.prog 14 #[valL stv opv L.last, .agg #[.int .i64 lo, .int .i64 hi]] w (ShowPost w L lo) := by
 have HV := hide (fun (V : World) (hV : Below w.heap.size w V) => cValid_any stv opv L V (h.below (Nat.le_refl _) hV) hL)
 have HIv := hide (fun (V : World) => (Valid_any lo hi V).mono (R' := fun e w' => e = .returned (.bool true) ∧ Below V.heap.size V w') fun e w' ⟨h1, h2⟩ => ⟨by rw [h1, hv], by rw [h2]; ((with_reducible repeat' first | exact .refl _ _ | refine .alloc ?_ ?_ _ | refine .setCell ?_ ?_ _ | refine .drew ?_ | refine below_drewN ?_ _) <;> first | omega | simp <;> omega)⟩)
 have HPa := hide (fun (V : World) (hV : Below w.heap.size w V) => past_any stv opv L lo V (h.below (Nat.le_refl _) hV) hL.2.2.2.2.2.1.1 (by omega))
 have HCl := hide (fun (V : World) (hV : Below w.heap.size w V) => CloneV_any stv L.st V (h.1.below (Nat.le_refl _) hV) (by have := hL.2.2.2.2.1; omega))
 have HLd := hide h
 have HL := hide hL
 have HQ := hide (fun e w' n stv' opv' tv' he h1 h2 h3 hB => @ShowPost.mk w L lo e w' n stv' opv' tv' he h1 h2 h3 hB)
 have HSt := hide (fun k j hk hj => @sh_step L hL k j hk hj)
 have HLn := hide (fun k => sh_len hL k)
 generalize ShowPost w L lo = POST at *
 obtain ⟨last, S, O⟩ := L
 dsimp only at *
 obtain ⟨a1, cap1, rfl, -⟩ := id h.1
 obtain ⟨a2, cap2, rfl, o1, o2⟩ := h.2.len
 dsimp only [valL] at *
 have hS : S.length ≤ 4000 := by have := hL.2.2.2.2.1; dsimp only at this; omega
 clear h hL hv
 obtain ⟨W, hW⟩ : ∃ V, V = (((w.alloc (.cells #[.int .i64 last, .slice a1 S.length cap1, .slice a2 O.length cap2] 38)).alloc (.cells #[.int .i64 lo, .int .i64 hi] 62)).alloc (.cells #[.int .i64 0, .slice none 0 0, .slice none 0 0] 38)) := ⟨_, rfl⟩
 have hl : BxC W (w.heap.size) [.int .i64 last, .slice a1 S.length cap1, .slice a2 O.length cap2] := by
  rw [hW]
  have h_ := BxC.made w [.int .i64 last, .slice a1 S.length cap1, .slice a2 O.length cap2] 38
  exact ((h_.alloc _).alloc _)
 have hb : BxC W (w.heap.size + 1) [.int .i64 lo, .int .i64 hi] := by
  rw [hW]
  have h_ := BxC.made (w.alloc (.cells #[.int .i64 last, .slice a1 S.length cap1, .slice a2 O.length cap2] 38)) [.int .i64 lo, .int .i64 hi] 62
  simp only [World.size_alloc] at h_
  exact (h_.alloc _)
 have hr : BxC W (w.heap.size + 1 + 1) [.int .i64 0, .slice none 0 0, .slice none 0 0] := by
  rw [hW]
  have h_ := BxC.made ((w.alloc (.cells #[.int .i64 last, .slice a1 S.length cap1, .slice a2 O.length cap2] 38)).alloc (.cells #[.int .i64 lo, .int .i64 hi] 62)) [.int .i64 0, .slice none 0 0, .slice none 0 0] 38
  simp only [World.size_alloc] at h_
  exact h_
 have hB : Below w.heap.size w W := by rw [hW]; ((with_reducible repeat' first | exact .refl _ _ | refine .alloc ?_ ?_ _ | refine .setCell ?_ ?_ _ | refine .drew ?_ | refine below_drewN ?_ _) <;> first | omega | simp <;> omega)
 have chl_0 := hl.1 0 _ rfl; have chl_1 := hl.1 1 _ rfl; have chl_2 := hl.1 2 _ rfl; have fhl := hl.2.1; have zhl := hl.2.2
 have chb_0 := hb.1 0 _ rfl; have chb_1 := hb.1 1 _ rfl; have fhb := hb.2.1; have zhb := hb.2.2
 have chr_0 := hr.1 0 _ rfl; have chr_1 := hr.1 1 _ rfl; have chr_2 := hr.1 2 _ rfl; have fhr := hr.2.1; have zhr := hr.2.2
 have hzz := hB.size
 go_enter Tryz.func14, Tryz.ntmps14
 go_upto_region 1 with fail
 rw [← hW]
 clear hW
 go_upto_region 4 with (first | (go_at_call 37; (with_reducible refine (HV.out _ hB).mono ?_); rintro e w1 ⟨rfl, k1⟩; have kk : Below W.heap.size W w1 := (by ((with_reducible repeat' first | exact .refl _ _ | exact k1 | refine .alloc ?_ ?_ _ | refine .setCell ?_ ?_ _ | refine .drew ?_ | refine below_drewN ?_ _ | refine Below.trans ?_ (k1.mono ?_)) <;> first | omega | simp <;> omega)); have t_ := hl.below hl.2.2 kk; clear chl_0 chl_1 chl_2 fhl zhl hl; have hl := t_; clear t_; have chl_0 := hl.1 0 _ rfl; have chl_1 := hl.1 1 _ rfl; have chl_2 := hl.1 2 _ rfl; have fhl := hl.2.1; have zhl := hl.2.2; have t_ := hb.below hb.2.2 kk; clear chb_0 chb_1 fhb zhb hb; have hb := t_; clear t_; have chb_0 := hb.1 0 _ rfl; have chb_1 := hb.1 1 _ rfl; have fhb := hb.2.1; have zhb := hb.2.2; have t_ := hr.below hr.2.2 kk; clear chr_0 chr_1 chr_2 fhr zhr hr; have hr := t_; clear t_; have chr_0 := hr.1 0 _ rfl; have chr_1 := hr.1 1 _ rfl; have chr_2 := hr.1 2 _ rfl; have fhr := hr.2.1; have zhr := hr.2.2; have t_ := hB.trans (kk.mono hB.size); clear hB; have hB := t_; clear t_ kk k1) | (go_at_call 38; (with_reducible refine (HIv.out _).mono ?_); rintro e w2 ⟨rfl, k2⟩; have kk : Below w1.heap.size w1 w2 := (by ((with_reducible repeat' first | exact .refl _ _ | exact k2 | refine .alloc ?_ ?_ _ | refine .setCell ?_ ?_ _ | refine .drew ?_ | refine below_drewN ?_ _ | refine Below.trans ?_ (k2.mono ?_)) <;> first | omega | simp <;> omega)); have t_ := hl.below hl.2.2 kk; clear chl_0 chl_1 chl_2 fhl zhl hl; have hl := t_; clear t_; have chl_0 := hl.1 0 _ rfl; have chl_1 := hl.1 1 _ rfl; have chl_2 := hl.1 2 _ rfl; have fhl := hl.2.1; have zhl := hl.2.2; have t_ := hb.below hb.2.2 kk; clear chb_0 chb_1 fhb zhb hb; have hb := t_; clear t_; have chb_0 := hb.1 0 _ rfl; have chb_1 := hb.1 1 _ rfl; have fhb := hb.2.1; have zhb := hb.2.2; have t_ := hr.below hr.2.2 kk; clear chr_0 chr_1 chr_2 fhr zhr hr; have hr := t_; clear t_; have chr_0 := hr.1 0 _ rfl; have chr_1 := hr.1 1 _ rfl; have chr_2 := hr.1 2 _ rfl; have fhr := hr.2.1; have zhr := hr.2.2; have t_ := hB.trans (kk.mono hB.size); clear hB; have hB := t_; clear t_ kk k2) | (go_at_call 39; (with_reducible refine (HPa.out _ hB).mono ?_); rintro e w3 ⟨⟨n, rfl, hn⟩, k3⟩; have kk : Below w2.heap.size w2 w3 := (by ((with_reducible repeat' first | exact .refl _ _ | exact k3 | refine .alloc ?_ ?_ _ | refine .setCell ?_ ?_ _ | refine .drew ?_ | refine below_drewN ?_ _ | refine Below.trans ?_ (k3.mono ?_)) <;> first | omega | simp <;> omega)); have t_ := hl.below hl.2.2 kk; clear chl_0 chl_1 chl_2 fhl zhl hl; have hl := t_; clear t_; have chl_0 := hl.1 0 _ rfl; have chl_1 := hl.1 1 _ rfl; have chl_2 := hl.1 2 _ rfl; have fhl := hl.2.1; have zhl := hl.2.2; have t_ := hb.below hb.2.2 kk; clear chb_0 chb_1 fhb zhb hb; have hb := t_; clear t_; have chb_0 := hb.1 0 _ rfl; have chb_1 := hb.1 1 _ rfl; have fhb := hb.2.1; have zhb := hb.2.2; have t_ := hr.below hr.2.2 kk; clear chr_0 chr_1 chr_2 fhr zhr hr; have hr := t_; clear t_; have chr_0 := hr.1 0 _ rfl; have chr_1 := hr.1 1 _ rfl; have chr_2 := hr.1 2 _ rfl; have fhr := hr.2.1; have zhr := hr.2.2; have t_ := hB.trans (kk.mono hB.size); clear hB; have hB := t_; clear t_ kk k3))
 have hnO : n ≤ O.length := hn.1
 have Hn := hide hn
 clear hn
 have N1 : (0 : Int) ≤ (n : Int) := by omega
 have N2 : (n : Int) ≤ (O.length : Int) := by omega
 have N3 : (n : Int) ≤ (cap2 : Int) := by omega
 have hzw3 : w.heap.size + 1 + 1 + 1 ≤ w3.heap.size := hr.2.2
 go_upto_region 6 with (go_at_call 40; (with_reducible refine (HCl.out _ hB).mono ?_); rintro e w4 ⟨sv, rfl, hosv, k4⟩; have kk : Below w3.heap.size w3 w4 := (by ((with_reducible repeat' first | exact .refl _ _ | exact k4 | refine .alloc ?_ ?_ _ | refine .setCell ?_ ?_ _ | refine .drew ?_ | refine below_drewN ?_ _ | refine Below.trans ?_ (k4.mono ?_)) <;> first | omega | simp <;> omega)); have t_ := hl.below hl.2.2 kk; clear chl_0 chl_1 chl_2 fhl zhl hl; have hl := t_; clear t_; have chl_0 := hl.1 0 _ rfl; have chl_1 := hl.1 1 _ rfl; have chl_2 := hl.1 2 _ rfl; have fhl := hl.2.1; have zhl := hl.2.2; have t_ := hb.below hb.2.2 kk; clear chb_0 chb_1 fhb zhb hb; have hb := t_; clear t_; have chb_0 := hb.1 0 _ rfl; have chb_1 := hb.1 1 _ rfl; have fhb := hb.2.1; have zhb := hb.2.2; have t_ := hr.below hr.2.2 kk; clear chr_0 chr_1 chr_2 fhr zhr hr; have hr := t_; clear t_; have chr_0 := hr.1 0 _ rfl; have chr_1 := hr.1 1 _ rfl; have chr_2 := hr.1 2 _ rfl; have fhr := hr.2.1; have zhr := hr.2.2; have t_ := hB.trans (kk.mono hB.size); clear hB; have hB := t_; clear t_ kk k4)
 have hzb4 := hB.size
 have hoS : Owns 64 encVr 4 w4 (w.heap.size + 1 + 1 + 1) sv S := hosv.mono hzw3
 have HBx := hide (fun (V : World) (hV : Below w4.heap.size w4 V) => And.intro (hl.below hl.2.2 hV) (hr.below hr.2.2 hV))
 have HB4 := hide hB
 have zl4 := hl.2.2
 have zr4 := hr.2.2
 clear chl_0 chl_1 chl_2 fhl zhl hl
 clear chb_0 chb_1 fhb zhb hb
 clear chr_0 chr_1 chr_2 fhr zhr hr
 clear hosv hB
 go_loopw [8, 36] (fun s8 s36 wx => ∃ k : Nat, k ≤ n ∧ s36 = .int .i64 k ∧ Hid (Owns 64 encVr 4 wx (w.heap.size + 1 + 1 + 1) s8 (stF S (ShV O k 0))) ∧ Below w4.heap.size w4 wx) (fun _ s36 _ => n - (intOf s36).toNat)
 case atStart => exact ⟨0, Nat.zero_le _, rfl, hide hoS, .refl _ _⟩
 case round =>
  clear hoS
  obtain ⟨k, hk, rfl, HO8, hB⟩ := hrel
  have hBw : Below w.heap.size w wr := HB4.out.trans (hB.mono hzb4)
  by_cases hlt : k < n
  ·obtain ⟨b, off, cap', rv, wv, hb, hlt0, x0, x1, x2, x3, hrd⟩ := TxR.at_ (HLd.out.2.below (Nat.le_refl _) hBw) (i := k) (show k < O.length by omega)
   cases hb
   have hfm : Fm (txAt O k) := (HL.out.2.2.2.2.2.1.2 _ (txAt_mem (show k < O.length by omega))).1
   have hfm8 : (txAt O k).wr.length ≤ 8 := hfm.2.2.2.2.2
   have HVs := hide (fun (V : World) (hV : Below wr.heap.size wr V) => cversions_any rv wv (txAt O k) V (hrd.below (Nat.le_refl _) hV) (by omega))
   dsimp only at x0 x1 x2 x3 hrd
   obtain ⟨ar, cr, rfl, -⟩ := id hrd.1
   obtain ⟨aw, cw, rfl, -⟩ := id hrd.2
   have hD8 : (vers (txAt O k)).length ≤ 8 := by rw [vers_length]; exact hfm8
   have HStk := hide (fun j hj => HSt.out k j (show k < O.length by omega) hj)
   have HNx := hide (shV_next (O := O) (k := k) (by omega))
   generalize hDD : vers (txAt O k) = D at *
   generalize htx : txAt O k = T at *
   obtain ⟨ti, tt, rl, wl⟩ := T
   dsimp only [valT] at *
   have I1 : (0 : Int) ≤ (k : Int) := by omega
   have I2 : (k : Int) < (O.length : Int) := by omega
   have I3 : (k : Int) < (n : Int) := by omega
   have hz := hB.size
   have HB := hide hB
   clear hfm hfm8 hrd htx hDD hBw
   go_upto_region 9 with (go_at_call 41; (with_reducible refine (HVs.out _ (by ((with_reducible repeat' first | exact .refl _ _ | refine .alloc ?_ ?_ _ | refine .setCell ?_ ?_ _ | refine .drew ?_ | refine below_drewN ?_ _) <;> first | omega | simp <;> omega))).mono ?_); rintro e w5 ⟨vv, rfl, hvv, k5⟩; have K5 : Below wr.heap.size wr w5 := (by ((with_reducible repeat' first | exact .refl _ _ | exact k5 | refine .alloc ?_ ?_ _ | refine .setCell ?_ ?_ _ | refine .drew ?_ | refine below_drewN ?_ _ | refine Below.trans ?_ (k5.mono ?_)) <;> first | omega | simp <;> omega)); have z5 := K5.size; have hvr := hvv.row encVr_length ver0 (by omega); obtain ⟨va, vc, rfl, -, -⟩ := hvv.val)
   have hB5 : Below w4.heap.size w4 w5 := HB.out.trans (K5.mono hz)
   have zB5 := hB5.size
   have HO5 := hide (HO8.out.below (Nat.le_refl _) K5)
   have HVr := hide hvr
   have HB5 := hide hB5
   clear k5 K5 hvv hvr hB5 x0 x1 x2 x3 HO8
   go_loopw [8, 44] (fun s8 s44 wx => ∃ j : Nat, j ≤ D.length ∧ s44 = .int .i64 j ∧ Hid (Owns 64 encVr 4 wx (w.heap.size + 1 + 1 + 1) s8 (stF S (ShV O k j))) ∧ Below w5.heap.size w5 wx) (fun _ s44 _ => D.length - (intOf s44).toNat)
   case atStart => exact ⟨0, Nat.zero_le _, rfl, HO5, .refl _ _⟩
   case round =>
    clear HO5
    obtain ⟨j, hj, rfl, HO8, hB6⟩ := hrel
    by_cases hjl : j < D.length
    ·obtain ⟨b', off', cap3, hb, hlt1, y0, y1, y2, y3⟩ := VRow.at_ (HVr.out.below (Nat.le_refl _) hB6) (i := j) hjl
     cases hb
     obtain ⟨st1, st2, st3, st4, st5⟩ := HStk.out j hjl
     obtain ⟨sa, sc, rfl, -, -⟩ := HO8.out.val
     obtain ⟨ST, hST⟩ : ∃ X, X = stF S (ShV O k j) := ⟨_, rfl⟩
     rw [← hST] at HO8 st1 st3 st4 st5 ⊢
     obtain ⟨⟨ek, et, ex, eg⟩, hev⟩ : ∃ v, v = vAt D j := ⟨_, rfl⟩
     rw [← hev] at y0 y1 y2 y3 st2 st3 st5
     dsimp only at y0 y1 y2 y3
     have HPt := hide (fun (V : World) (hV : Below wr.heap.size wr V) => Put_any (.slice sa ST.length sc) ST ⟨ek, et, ex, eg⟩ V (Rws.below (HO8.out.row encVr_length ver0 (by omega)) (Nat.le_refl _) hV) st1 st2 st3 st4)
     dsimp only [valV] at HPt
     have HS5 := hide st5
     have J1 : (0 : Int) ≤ (j : Int) := by omega
     have J2 : (j : Int) < (D.length : Int) := by omega
     have hz6 := hB6.size
     have hzw : w.heap.size + 1 + 1 + 1 ≤ wr.heap.size := by omega
     clear hev st1 st2 st3 st4 st5 hST HO8
     go_wp2_with (go_at_call 36; (with_reducible refine (HPt.out _ (by ((with_reducible repeat' first | exact .refl _ _ | refine .alloc ?_ ?_ _ | refine .setCell ?_ ?_ _ | refine .drew ?_ | refine below_drewN ?_ _) <;> first | omega | simp <;> omega))).mono ?_); rintro e w7 ⟨v7, rfl, ho7, k7⟩; have K7 : Below wr.heap.size wr w7 := (by ((with_reducible repeat' first | exact .refl _ _ | exact k7 | refine .alloc ?_ ?_ _ | refine .setCell ?_ ?_ _ | refine .drew ?_ | refine below_drewN ?_ _ | refine Below.trans ?_ (k7.mono ?_)) <;> first | omega | simp <;> omega)); have hp7 : Owns 64 encVr 4 w7 (w.heap.size + 1 + 1 + 1) v7 (putV ST ⟨ek, et, ex, eg⟩) := ho7.mono (Nat.le_trans hzw (Below.size (show Below wr.heap.size wr _ from (by ((with_reducible repeat' first | exact .refl _ _ | refine .alloc ?_ ?_ _ | refine .setCell ?_ ?_ _ | refine .drew ?_ | refine below_drewN ?_ _) <;> first | omega | simp <;> omega))))); have H7 := hide hp7; clear hp7 ho7 k7)
     go_roundw
     case rel => exact ⟨j + 1, by omega, by go_num, hide (by rw [← HS5.out]; exact H7.out), hB6.trans (K7.mono hz6)⟩
     case measure => simp [intOf]; omega
    ·obtain rfl : j = D.length := by omega
     rw [HNx.out] at HO8
     have zB6 := hB6.size
     go_wp2_with fail
     go_roundw
     case rel => exact ⟨k + 1, by omega, by go_num, HO8, HB5.out.trans (hB6.mono zB5)⟩
     case measure => simp [intOf]; omega
  ·obtain rfl : k = n := by omega
   have hbx := HBx.out wr hB
   have hl := hbx.1
   have chl_0 := hl.1 0 _ rfl; have chl_1 := hl.1 1 _ rfl; have chl_2 := hl.1 2 _ rfl; have fhl := hl.2.1; have zhl := hl.2.2
   have HRb := hide (fun (V : World) (hV : Below wr.heap.size wr V) => hbx.2.below hbx.2.2.2 hV)
   have zr9 : w.heap.size + 1 + 1 < wr.heap.size := hbx.2.2.2
   have HA9 := hide (fun (V : World) (hV : Below wr.heap.size wr V) => And.intro ((hV.cell (p := ⟨_, _, none⟩) zhl).trans chl_0) (And.intro ((hV.cell (p := ⟨_, _, none⟩) zhl).trans chl_1) ((hV.cell (p := ⟨_, _, none⟩) zhl).trans chl_2)))
   have HBw := hide (HB4.out.trans (hB.mono hzb4))
   have hzwr : w.heap.size ≤ wr.heap.size := by omega
   have H8 := hide (fun (t : Tx) (ht : t ∈ O) => (⟨by have := (HL.out.2.2.2.2.2.1.2 t ht).1.2.2.2.2.1; omega, by have := (HL.out.2.2.2.2.2.1.2 t ht).1.2.2.2.2.2; omega⟩ : t.rd.length ≤ 100 ∧ t.wr.length ≤ 100))
   obtain ⟨sa, sc, hsv, -, -⟩ := HO8.out.val
   subst hsv
   have HO9 := HO8
   have zd : wr.drew.heap.size = wr.heap.size := rfl
   clear HO8 hbx hl
   rcases hop with hq | ⟨gb, gn, gc, hq⟩
   ·simp only [Value.slice.injEq] at hq
    obtain ⟨rfl, hO0, rfl⟩ := hq
    obtain rfl : O = [] := List.eq_nil_of_length_eq_zero hO0
    obtain rfl : k = 0 := by simpa using hnO
    simp only [List.length_nil, List.drop_nil, List.take_nil] at *
    have HDr := hide (fun (V : World) (hV : Below w.heap.size w V) => copies_any (.slice none 0 0) (([] : List Tx)) V (TxTy.row (TxTy.nil V)) (by simp) (fun t ht => by simp at ht))
    have HTk := hide (fun (V : World) (hV : Below w.heap.size w V) => copies_any (.slice none 0 0) (([] : List Tx)) V (TxTy.row (TxTy.nil V)) (by simp) (fun t ht => by simp at ht))
    go_upto_region 17 with fail
    clear chl_0 chl_1 chl_2
    have tok1 : True := trivial
    go_region_held3 (fun V => V.cell? ⟨w.heap.size, 0, none⟩ = some (.int .i64 last) ∧ V.cell? ⟨w.heap.size, 1, none⟩ = some (.slice a1 S.length cap1) ∧ V.cell? ⟨w.heap.size, 2, none⟩ = some (.slice none 0 0)) (first | (refine HA9.out _ ?_; ((with_reducible repeat' first | exact .refl _ _ | exact k11 | exact k10 | refine .alloc ?_ ?_ _ | refine .setCell ?_ ?_ _ | refine .drew ?_ | refine below_drewN ?_ _ | refine Below.trans ?_ (k11.mono ?_) | refine Below.trans ?_ (k10.mono ?_)) <;> first | omega | simp <;> omega); done) | (simp (disch := (dsimp only; omega)) only [World.cell?_setCell_far]; exact HA9.out _ K11)) (first | (go_at_call 42; have _t := tok1; clear tok1; (with_reducible refine (HDr.out _ (by ((with_reducible repeat' first | exact .refl _ _ | exact HBw.out | refine .alloc ?_ ?_ _ | refine .setCell ?_ ?_ _ | refine .drew ?_ | refine below_drewN ?_ _ | refine Below.trans ?_ (HBw.out.mono ?_)) <;> first | omega | simp <;> omega))).mono ?_); rintro e w10 ⟨ov, rfl, hoo, k10⟩; have z10 := k10.size; have K10 : Below wr.heap.size wr w10 := (by ((with_reducible repeat' first | exact .refl _ _ | exact k10 | refine .alloc ?_ ?_ _ | refine .setCell ?_ ?_ _ | refine .drew ?_ | refine below_drewN ?_ _ | refine Below.trans ?_ (k10.mono ?_)) <;> first | omega | simp <;> omega)); have z10w := K10.size; have hoow : OwnTx w10 wr.heap.size ov (([] : List Tx)) := hoo.mono (Below.size (show Below wr.heap.size wr _ from (by ((with_reducible repeat' first | exact .refl _ _ | refine .alloc ?_ ?_ _ | refine .setCell ?_ ?_ _ | refine .drew ?_ | refine below_drewN ?_ _) <;> first | omega | simp <;> omega)))); obtain ⟨oa, n10, oc, rfl⟩ : ∃ a n c, ov = .slice a n c := (by obtain ⟨a, c, h, -, -⟩ := hoow.ty.row.len; exact ⟨a, _, c, h⟩)) | (go_at_call 42; (with_reducible refine (HTk.out _ (by ((with_reducible repeat' first | exact .refl _ _ | exact K10 | exact HBw.out | refine .alloc ?_ ?_ _ | refine .setCell ?_ ?_ _ | refine .drew ?_ | refine below_drewN ?_ _ | refine Below.trans ?_ (K10.mono ?_) | refine Below.trans ?_ (HBw.out.mono ?_)) <;> first | omega | simp <;> omega))).mono ?_); rintro e w11 ⟨tv, rfl, hot, k11⟩; have z11 := k11.size; have K11 : Below wr.heap.size wr w11 := (by ((with_reducible repeat' first | exact .refl _ _ | exact k11 | exact K10 | refine .alloc ?_ ?_ _ | refine .setCell ?_ ?_ _ | refine .drew ?_ | refine below_drewN ?_ _ | refine Below.trans ?_ (k11.mono ?_) | refine Below.trans ?_ (K10.mono ?_)) <;> first | omega | simp <;> omega)); have k11b : Below w10.heap.size w10 w11 := (by ((with_reducible repeat' first | exact .refl _ _ | exact k11 | refine .alloc ?_ ?_ _ | refine .setCell ?_ ?_ _ | refine .drew ?_ | refine below_drewN ?_ _ | refine Below.trans ?_ (k11.mono ?_)) <;> first | omega | simp <;> omega)); have e1 := HRb.out w11 K11; have ce1_0 := e1.1 0 _ rfl; have ce1_1 := e1.1 1 _ rfl; have ce1_2 := e1.1 2 _ rfl; have fe1 := e1.2.1; have ze1 := e1.2.2))
    have st : ∀ (P : World → Prop), (∀ V p u, p.block = w.heap.size + 1 + 1 → P V → P (V.setCell p u)) → P w11 → P (((w11.setCell ⟨w.heap.size + 1 + 1, 0, none⟩ (.int .i64 last)).setCell ⟨w.heap.size + 1 + 1, 1, none⟩ (.slice sa (stF S (ShV [] 0 0)).length sc)).setCell ⟨w.heap.size + 1 + 1, 2, none⟩ (.slice oa n10 oc)) :=
     fun P h h0 => h _ _ _ rfl (h _ _ _ rfl (h _ _ _ rfl h0))
    have e3 := ((e1.set 0 (.int .i64 last) (by simp)).set 1 (.slice sa (stF S (ShV [] 0 0)).length sc) (by simp)).set 2 (.slice oa n10 oc) (by simp)
    dsimp only [List.set_cons_zero, List.set_cons_succ] at e3
    generalize hVF : ((w11.setCell ⟨w.heap.size + 1 + 1, 0, none⟩ (.int .i64 last)).setCell ⟨w.heap.size + 1 + 1, 1, none⟩ (.slice sa (stF S (ShV [] 0 0)).length sc)).setCell ⟨w.heap.size + 1 + 1, 2, none⟩ (.slice oa n10 oc) = VF at *
    have f1 := st (fun V => Below w.heap.size w V) (fun V p u hp h => h.setCell (by omega) u) (HBw.out.trans (K11.mono hzwr))
    have f2 := st (fun V => Owns 64 encVr 4 V (w.heap.size + 1 + 1 + 1) (.slice sa (stF S (ShV [] 0 0)).length sc) (stF S (ShV [] 0 0))) (fun V p u hp h => ownsRow_setCell_below h (by omega) u) (HO9.out.below (Nat.le_refl _) K11)
    have f3 := st (fun V => OwnTx V wr.heap.size (.slice oa n10 oc) (([] : List Tx))) (fun V p u hp h => h.setNe (by omega) u) (hoow.below (Nat.le_refl _) k11b)
    rw [shV_zero] at f2
    have F := hide (And.intro f1 (And.intro (Owns.mono f2 (show w.heap.size ≤ w.heap.size + 1 + 1 + 1 by omega)) (f3.mono hzwr)))
    rw [shV_zero] at e3
    clear f1 f2 f3 st hVF e1 ce1_0 ce1_1 ce1_2 fe1 ze1 hoow hoo hot k11 k10
    have ce3_0 := e3.1 0 _ rfl; have ce3_1 := e3.1 1 _ rfl; have ce3_2 := e3.1 2 _ rfl; have fe3 := e3.2.1; have ze3 := e3.2.2
    rw [shV_zero]
    go_wp2_with fail
    exact bodyPost_ret (v := .tuple #[.agg #[.int .i64 last, .slice sa (stF S (evs (List.take 0 ([] : List Tx)))).length sc, .slice oa n10 oc], tv, .int .i64 0]) (by simp [results, Tryz.results14, go_sem, ce3_0, ce3_1, ce3_2]) rfl (HQ.out _ _ 0 _ _ _ rfl Hn.out F.out.2.1 F.out.2.2 F.out.1)

   ·simp only [Value.slice.injEq] at hq
    obtain ⟨rfl, -, -⟩ := hq
    by_cases hcn : cap2 = k
    ·have hcn1 : k = cap2 := hcn.symm
     subst hcn1
     have hOk : O.length = k := by omega
     have HOk := hide hOk
     clear hOk hcn
     have HDr := hide (fun (V : World) (hV : Below w.heap.size w V) => copies_any (.slice (some ⟨gb, 0, none⟩) 0 0) (O.drop k) V ((by rw [List.drop_of_length_le (by rw [HOk.out]; omega)]; exact TxR.empty V _ 0 (by omega))) (by rw [List.length_drop]; omega) (fun t ht => H8.out t (List.mem_of_mem_drop ht)))
     have HTk := hide (fun (V : World) (hV : Below w.heap.size w V) => copies_any (.slice (some ⟨gb, 0, none⟩) k k) (O.take k) V (TxR.take (HLd.out.2.below (Nat.le_refl _) hV) k hnO) (by rw [List.length_take]; omega) (fun t ht => H8.out t (List.mem_of_mem_take ht)))
     go_upto_region 17 with fail
     clear chl_0 chl_1 chl_2
     have tok1 : True := trivial
     go_region_held3 (fun V => V.cell? ⟨w.heap.size, 0, none⟩ = some (.int .i64 last) ∧ V.cell? ⟨w.heap.size, 1, none⟩ = some (.slice a1 S.length cap1) ∧ V.cell? ⟨w.heap.size, 2, none⟩ = some (.slice (some ⟨gb, 0, none⟩) O.length k)) (first | (refine HA9.out _ ?_; ((with_reducible repeat' first | exact .refl _ _ | exact k11 | exact k10 | refine .alloc ?_ ?_ _ | refine .setCell ?_ ?_ _ | refine .drew ?_ | refine below_drewN ?_ _ | refine Below.trans ?_ (k11.mono ?_) | refine Below.trans ?_ (k10.mono ?_)) <;> first | omega | simp <;> omega); done) | (simp (disch := (dsimp only; omega)) only [World.cell?_setCell_far]; exact HA9.out _ K11)) (first | (go_at_call 42; have _t := tok1; clear tok1; (with_reducible refine (HDr.out _ (by ((with_reducible repeat' first | exact .refl _ _ | exact HBw.out | refine .alloc ?_ ?_ _ | refine .setCell ?_ ?_ _ | refine .drew ?_ | refine below_drewN ?_ _ | refine Below.trans ?_ (HBw.out.mono ?_)) <;> first | omega | simp <;> omega))).mono ?_); rintro e w10 ⟨ov, rfl, hoo, k10⟩; have z10 := k10.size; have K10 : Below wr.heap.size wr w10 := (by ((with_reducible repeat' first | exact .refl _ _ | exact k10 | refine .alloc ?_ ?_ _ | refine .setCell ?_ ?_ _ | refine .drew ?_ | refine below_drewN ?_ _ | refine Below.trans ?_ (k10.mono ?_)) <;> first | omega | simp <;> omega)); have z10w := K10.size; have hoow : OwnTx w10 wr.heap.size ov (O.drop k) := hoo.mono (Below.size (show Below wr.heap.size wr _ from (by ((with_reducible repeat' first | exact .refl _ _ | refine .alloc ?_ ?_ _ | refine .setCell ?_ ?_ _ | refine .drew ?_ | refine below_drewN ?_ _) <;> first | omega | simp <;> omega)))); obtain ⟨oa, n10, oc, rfl⟩ : ∃ a n c, ov = .slice a n c := (by obtain ⟨a, c, h, -, -⟩ := hoow.ty.row.len; exact ⟨a, _, c, h⟩)) | (go_at_call 42; (with_reducible refine (HTk.out _ (by ((with_reducible repeat' first | exact .refl _ _ | exact K10 | exact HBw.out | refine .alloc ?_ ?_ _ | refine .setCell ?_ ?_ _ | refine .drew ?_ | refine below_drewN ?_ _ | refine Below.trans ?_ (K10.mono ?_) | refine Below.trans ?_ (HBw.out.mono ?_)) <;> first | omega | simp <;> omega))).mono ?_); rintro e w11 ⟨tv, rfl, hot, k11⟩; have z11 := k11.size; have K11 : Below wr.heap.size wr w11 := (by ((with_reducible repeat' first | exact .refl _ _ | exact k11 | exact K10 | refine .alloc ?_ ?_ _ | refine .setCell ?_ ?_ _ | refine .drew ?_ | refine below_drewN ?_ _ | refine Below.trans ?_ (k11.mono ?_) | refine Below.trans ?_ (K10.mono ?_)) <;> first | omega | simp <;> omega)); have k11b : Below w10.heap.size w10 w11 := (by ((with_reducible repeat' first | exact .refl _ _ | exact k11 | refine .alloc ?_ ?_ _ | refine .setCell ?_ ?_ _ | refine .drew ?_ | refine below_drewN ?_ _ | refine Below.trans ?_ (k11.mono ?_)) <;> first | omega | simp <;> omega)); have e1 := HRb.out w11 K11; have ce1_0 := e1.1 0 _ rfl; have ce1_1 := e1.1 1 _ rfl; have ce1_2 := e1.1 2 _ rfl; have fe1 := e1.2.1; have ze1 := e1.2.2))
     have st : ∀ (P : World → Prop), (∀ V p u, p.block = w.heap.size + 1 + 1 → P V → P (V.setCell p u)) → P w11 → P (((w11.setCell ⟨w.heap.size + 1 + 1, 0, none⟩ (.int .i64 last)).setCell ⟨w.heap.size + 1 + 1, 1, none⟩ (.slice sa (stF S (ShV O k 0)).length sc)).setCell ⟨w.heap.size + 1 + 1, 2, none⟩ (.slice oa n10 oc)) :=
      fun P h h0 => h _ _ _ rfl (h _ _ _ rfl (h _ _ _ rfl h0))
     have e3 := ((e1.set 0 (.int .i64 last) (by simp)).set 1 (.slice sa (stF S (ShV O k 0)).length sc) (by simp)).set 2 (.slice oa n10 oc) (by simp)
     dsimp only [List.set_cons_zero, List.set_cons_succ] at e3
     generalize hVF : ((w11.setCell ⟨w.heap.size + 1 + 1, 0, none⟩ (.int .i64 last)).setCell ⟨w.heap.size + 1 + 1, 1, none⟩ (.slice sa (stF S (ShV O k 0)).length sc)).setCell ⟨w.heap.size + 1 + 1, 2, none⟩ (.slice oa n10 oc) = VF at *
     have f1 := st (fun V => Below w.heap.size w V) (fun V p u hp h => h.setCell (by omega) u) (HBw.out.trans (K11.mono hzwr))
     have f2 := st (fun V => Owns 64 encVr 4 V (w.heap.size + 1 + 1 + 1) (.slice sa (stF S (ShV O k 0)).length sc) (stF S (ShV O k 0))) (fun V p u hp h => ownsRow_setCell_below h (by omega) u) (HO9.out.below (Nat.le_refl _) K11)
     have f3 := st (fun V => OwnTx V wr.heap.size (.slice oa n10 oc) (O.drop k)) (fun V p u hp h => h.setNe (by omega) u) (hoow.below (Nat.le_refl _) k11b)
     rw [shV_zero] at f2
     have F := hide (And.intro f1 (And.intro (Owns.mono f2 (show w.heap.size ≤ w.heap.size + 1 + 1 + 1 by omega)) (f3.mono hzwr)))
     rw [shV_zero] at e3
     clear f1 f2 f3 st hVF e1 ce1_0 ce1_1 ce1_2 fe1 ze1 hoow hoo hot k11 k10
     have ce3_0 := e3.1 0 _ rfl; have ce3_1 := e3.1 1 _ rfl; have ce3_2 := e3.1 2 _ rfl; have fe3 := e3.2.1; have ze3 := e3.2.2
     rw [shV_zero]
     go_wp2_with fail
     exact bodyPost_ret (v := .tuple #[.agg #[.int .i64 last, .slice sa (stF S (evs (O.take k))).length sc, .slice oa n10 oc], tv, .int .i64 0]) (by simp [results, Tryz.results14, go_sem, ce3_0, ce3_1, ce3_2]) rfl (HQ.out _ _ k _ _ _ rfl Hn.out F.out.2.1 F.out.2.2 F.out.1)

    ·have hcn2 : ¬ (cap2 = k) := hcn
     have HDr := hide (fun (V : World) (hV : Below w.heap.size w V) => copies_any (.slice (some ⟨gb, k * 4, none⟩) (O.length - k) (cap2 - k)) (O.drop k) V (TxR.drop (HLd.out.2.below (Nat.le_refl _) hV) k (k * 4) hnO (by omega)) (by rw [List.length_drop]; omega) (fun t ht => H8.out t (List.mem_of_mem_drop ht)))
     have HTk := hide (fun (V : World) (hV : Below w.heap.size w V) => copies_any (.slice (some ⟨gb, 0, none⟩) k cap2) (O.take k) V (TxR.take (HLd.out.2.below (Nat.le_refl _) hV) k hnO) (by rw [List.length_take]; omega) (fun t ht => H8.out t (List.mem_of_mem_take ht)))
     go_upto_region 17 with fail
     clear chl_0 chl_1 chl_2
     have tok1 : True := trivial
     go_region_held3 (fun V => V.cell? ⟨w.heap.size, 0, none⟩ = some (.int .i64 last) ∧ V.cell? ⟨w.heap.size, 1, none⟩ = some (.slice a1 S.length cap1) ∧ V.cell? ⟨w.heap.size, 2, none⟩ = some (.slice (some ⟨gb, 0, none⟩) O.length cap2)) (first | (refine HA9.out _ ?_; ((with_reducible repeat' first | exact .refl _ _ | exact k11 | exact k10 | refine .alloc ?_ ?_ _ | refine .setCell ?_ ?_ _ | refine .drew ?_ | refine below_drewN ?_ _ | refine Below.trans ?_ (k11.mono ?_) | refine Below.trans ?_ (k10.mono ?_)) <;> first | omega | simp <;> omega); done) | (simp (disch := (dsimp only; omega)) only [World.cell?_setCell_far]; exact HA9.out _ K11)) (first | (go_at_call 42; have _t := tok1; clear tok1; (with_reducible refine (HDr.out _ (by ((with_reducible repeat' first | exact .refl _ _ | exact HBw.out | refine .alloc ?_ ?_ _ | refine .setCell ?_ ?_ _ | refine .drew ?_ | refine below_drewN ?_ _ | refine Below.trans ?_ (HBw.out.mono ?_)) <;> first | omega | simp <;> omega))).mono ?_); rintro e w10 ⟨ov, rfl, hoo, k10⟩; have z10 := k10.size; have K10 : Below wr.heap.size wr w10 := (by ((with_reducible repeat' first | exact .refl _ _ | exact k10 | refine .alloc ?_ ?_ _ | refine .setCell ?_ ?_ _ | refine .drew ?_ | refine below_drewN ?_ _ | refine Below.trans ?_ (k10.mono ?_)) <;> first | omega | simp <;> omega)); have z10w := K10.size; have hoow : OwnTx w10 wr.heap.size ov (O.drop k) := hoo.mono (Below.size (show Below wr.heap.size wr _ from (by ((with_reducible repeat' first | exact .refl _ _ | refine .alloc ?_ ?_ _ | refine .setCell ?_ ?_ _ | refine .drew ?_ | refine below_drewN ?_ _) <;> first | omega | simp <;> omega)))); obtain ⟨oa, n10, oc, rfl⟩ : ∃ a n c, ov = .slice a n c := (by obtain ⟨a, c, h, -, -⟩ := hoow.ty.row.len; exact ⟨a, _, c, h⟩)) | (go_at_call 42; (with_reducible refine (HTk.out _ (by ((with_reducible repeat' first | exact .refl _ _ | exact K10 | exact HBw.out | refine .alloc ?_ ?_ _ | refine .setCell ?_ ?_ _ | refine .drew ?_ | refine below_drewN ?_ _ | refine Below.trans ?_ (K10.mono ?_) | refine Below.trans ?_ (HBw.out.mono ?_)) <;> first | omega | simp <;> omega))).mono ?_); rintro e w11 ⟨tv, rfl, hot, k11⟩; have z11 := k11.size; have K11 : Below wr.heap.size wr w11 := (by ((with_reducible repeat' first | exact .refl _ _ | exact k11 | exact K10 | refine .alloc ?_ ?_ _ | refine .setCell ?_ ?_ _ | refine .drew ?_ | refine below_drewN ?_ _ | refine Below.trans ?_ (k11.mono ?_) | refine Below.trans ?_ (K10.mono ?_)) <;> first | omega | simp <;> omega)); have k11b : Below w10.heap.size w10 w11 := (by ((with_reducible repeat' first | exact .refl _ _ | exact k11 | refine .alloc ?_ ?_ _ | refine .setCell ?_ ?_ _ | refine .drew ?_ | refine below_drewN ?_ _ | refine Below.trans ?_ (k11.mono ?_)) <;> first | omega | simp <;> omega)); have e1 := HRb.out w11 K11; have ce1_0 := e1.1 0 _ rfl; have ce1_1 := e1.1 1 _ rfl; have ce1_2 := e1.1 2 _ rfl; have fe1 := e1.2.1; have ze1 := e1.2.2))
     have st : ∀ (P : World → Prop), (∀ V p u, p.block = w.heap.size + 1 + 1 → P V → P (V.setCell p u)) → P w11 → P (((w11.setCell ⟨w.heap.size + 1 + 1, 0, none⟩ (.int .i64 last)).setCell ⟨w.heap.size + 1 + 1, 1, none⟩ (.slice sa (stF S (ShV O k 0)).length sc)).setCell ⟨w.heap.size + 1 + 1, 2, none⟩ (.slice oa n10 oc)) :=
      fun P h h0 => h _ _ _ rfl (h _ _ _ rfl (h _ _ _ rfl h0))
     have e3 := ((e1.set 0 (.int .i64 last) (by simp)).set 1 (.slice sa (stF S (ShV O k 0)).length sc) (by simp)).set 2 (.slice oa n10 oc) (by simp)
     dsimp only [List.set_cons_zero, List.set_cons_succ] at e3
     generalize hVF : ((w11.setCell ⟨w.heap.size + 1 + 1, 0, none⟩ (.int .i64 last)).setCell ⟨w.heap.size + 1 + 1, 1, none⟩ (.slice sa (stF S (ShV O k 0)).length sc)).setCell ⟨w.heap.size + 1 + 1, 2, none⟩ (.slice oa n10 oc) = VF at *
     have f1 := st (fun V => Below w.heap.size w V) (fun V p u hp h => h.setCell (by omega) u) (HBw.out.trans (K11.mono hzwr))
     have f2 := st (fun V => Owns 64 encVr 4 V (w.heap.size + 1 + 1 + 1) (.slice sa (stF S (ShV O k 0)).length sc) (stF S (ShV O k 0))) (fun V p u hp h => ownsRow_setCell_below h (by omega) u) (HO9.out.below (Nat.le_refl _) K11)
     have f3 := st (fun V => OwnTx V wr.heap.size (.slice oa n10 oc) (O.drop k)) (fun V p u hp h => h.setNe (by omega) u) (hoow.below (Nat.le_refl _) k11b)
     rw [shV_zero] at f2
     have F := hide (And.intro f1 (And.intro (Owns.mono f2 (show w.heap.size ≤ w.heap.size + 1 + 1 + 1 by omega)) (f3.mono hzwr)))
     rw [shV_zero] at e3
     clear f1 f2 f3 st hVF e1 ce1_0 ce1_1 ce1_2 fe1 ze1 hoow hoo hot k11 k10
     have ce3_0 := e3.1 0 _ rfl; have ce3_1 := e3.1 1 _ rfl; have ce3_2 := e3.1 2 _ rfl; have fe3 := e3.2.1; have ze3 := e3.2.2
     rw [shV_zero]
     go_wp2_with fail
     exact bodyPost_ret (v := .tuple #[.agg #[.int .i64 last, .slice sa (stF S (evs (O.take k))).length sc, .slice oa n10 oc], tv, .int .i64 0]) (by simp [results, Tryz.results14, go_sem, ce3_0, ce3_1, ce3_2]) rfl (HQ.out _ _ k _ _ _ rfl Hn.out F.out.2.1 F.out.2.2 F.out.1)
end Go.Proofs.YthkoaecafmhlcaaGreat
