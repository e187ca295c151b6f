/- The statement's r14Run. -/
import Derived.Test.YthkoaecafmhlcaaGreatJ39
namespace Go.Proofs.YthkoaecafmhlcaaGreat
open Go.RowKit
attribute [local simp] size_drewT
structure Dd where
  rv : Value
  wv : Value
  t : Tx
  af : Int
  lf : Int
  rt : Int
  lk : Bool
def dd0 : Dd := ⟨.slice none 0 0, .slice none 0 0, tx0, 0, 0, 0, false⟩
def encD (x : Dd) : List Value := [.int .i64 x.t.id, .int .i64 x.t.ts, x.rv, x.wv, .int .u32 x.af, .int .u16 x.lf, .int .u16 x.rt, .bool x.lk]
theorem encD_length (x : Dd) : (encD x).length = 8 := rfl
def DdN (x : Dd) : Prop := (0 ≤ x.af ∧ x.af ≤ 4294967295) ∧ (0 ≤ x.lf ∧ x.lf ≤ 65535) ∧ (0 ≤ x.rt ∧ x.rt ≤ 65535)
def DdR (w : World) (v : Value) (l : List Dd) : Prop := Rws encD 8 dd0 w v l ∧ ∀ x, x ∈ l → TvRd w x.rv x.wv x.t ∧ DdN x
theorem DdR.below {w w' : World} {v : Value} {l : List Dd} (h : DdR w v l) {B : Nat} (hB : w.heap.size ≤ B) (hb : Below B w w') : DdR w' v l := ⟨h.1.below hB hb, fun x hx => ⟨(h.2 x hx).1.below hB hb, (h.2 x hx).2⟩⟩
theorem DdR.at_ {w : World} {v : Value} {l : List Dd} (h : DdR w v l) {i : Nat} (hi : i < l.length) : ∃ b off cap x, v = .slice (some ⟨b, off, none⟩) l.length cap ∧ b < w.heap.size ∧ (∀ j u, (encD x)[j]? = some u → w.cell? ⟨b, off + i * 8 + j, none⟩ = some u) ∧ TvRd w x.rv x.wv x.t ∧ DdN x ∧ x ∈ l := by
  obtain ⟨b, off, cap, rfl, _, _, h4, h5⟩ := h.1.at0 (by omega)
  have hm : l.getD i dd0 ∈ l := by simp [List.getD_eq_getElem?_getD, List.getElem?_eq_getElem hi]
  exact ⟨b, off, cap, _, rfl, h4, h5 i hi, (h.2 _ hm).1, (h.2 _ hm).2, hm⟩
def RunPost (w : World) (n : Nat) (e : Ending) (w' : World) : Prop :=
  (∃ (D : List Tx) (m : Nat) (stv opv dv : Value) (now : Int), e = .returned (.agg #[.int .i64 (topTs D), stv, opv, dv, .int .i64 now, .bool true]) ∧ RunS w' w.heap.size D m stv opv dv ∧ D.length ≤ n ∧ topTs D ≤ 5000000000 * n ∧ 0 ≤ now ∧ now ≤ 5000000000 * n) ∧ Below w.heap.size w w'
set_option maxRecDepth 100000 in
set_option maxHeartbeats 8000000 in
theorem Run_any (v : Value) (l : List Dd) (w : World) (h : DdR w v l) (hl : l.length ≤ 12) :
    Calls Tryz.prog 7 #[v] w (RunPost w l.length) := by
  have HI := hide h
  have HQ := hide (fun (e : Ending) (w' : World) (D : List Tx) (m : Nat) (stv opv dv : Value) (now : Int) (he : e = .returned (.agg #[.int .i64 (topTs D), stv, opv, dv, .int .i64 now, .bool true])) (h1 : RunS w' w.heap.size D m stv opv dv) (h2 : D.length ≤ l.length) (h3 : topTs D ≤ 5000000000 * l.length) (h4 : 0 ≤ now ∧ now ≤ 5000000000 * l.length) (hB : Below w.heap.size w w') => (show RunPost w l.length e w' from ⟨⟨D, m, stv, opv, dv, now, he, h1, h2, h3, h4.1, h4.2⟩, hB⟩))
  generalize RunPost w l.length = POST at *
  obtain ⟨la, lc, rfl, -⟩ := h.1.len
  clear h
  obtain ⟨W, hW⟩ : ∃ V, V = (w.alloc (.cells #[.int .i64 0, .slice none 0 0, .slice none 0 0, .slice none 0 0, .int .i64 0, .bool false] 40)).alloc (.cells #[.int .i64 0, .slice none 0 0, .slice none 0 0, .slice none 0 0, .int .i64 0, .bool true] 40) := ⟨_, rfl⟩
  have ha : BxC W w.heap.size [.int .i64 0, .slice none 0 0, .slice none 0 0, .slice none 0 0, .int .i64 0, .bool false] := by rw [hW]; exact (BxC.made w _ _).alloc _
  have hb : BxC W (w.heap.size + 1) [.int .i64 0, .slice none 0 0, .slice none 0 0, .slice none 0 0, .int .i64 0, .bool true] := by
    have h_ := BxC.made (w.alloc (.cells #[.int .i64 0, .slice none 0 0, .slice none 0 0, .slice none 0 0, .int .i64 0, .bool false] 40)) [.int .i64 0, .slice none 0 0, .slice none 0 0, .slice none 0 0, .int .i64 0, .bool true] 40
    rw [World.size_alloc] at h_
    rw [hW]; exact h_
  have hB : Below w.heap.size w W := by rw [hW]; ((with_reducible repeat' first | exact .refl _ _ | refine .alloc ?_ ?_ _ | refine .setCell ?_ ?_ _ | refine .drew ?_ | refine below_drewN ?_ _) <;> first | omega | simp <;> omega)
  have zW : W.heap.size = w.heap.size + 2 := by rw [hW]; simp
  go_enter Tryz.func7, Tryz.ntmps7
  go_upto_region 2 with fail
  rw [← hW]
  clear hW
  go_wp2_with fail
  go_loopw [16] (fun s16 wx => ∃ (i : Nat) (D : List Tx) (m : Nat) (stv opv dv : Value) (now LT : Int), i ≤ l.length ∧ s16 = .int .i64 i ∧ Hid (BxC wx (w.heap.size + 1) [.int .i64 LT, stv, opv, dv, .int .i64 now, .bool true]) ∧ Hid (LT = topTs D) ∧ Hid (RunS wx (w.heap.size + 2) D m stv opv dv) ∧ Hid (D.length ≤ i) ∧ LT ≤ 5000000000 * i ∧ (0 ≤ now ∧ now ≤ 5000000000 * i) ∧ Hid (BxC wx w.heap.size [.int .i64 0, .slice none 0 0, .slice none 0 0, .slice none 0 0, .int .i64 0, .bool false]) ∧ Below w.heap.size w wx) (fun s16 _ => l.length - (intOf s16).toNat)
  case atStart => exact ⟨0, [], 0, _, _, _, 0, 0, Nat.zero_le _, rfl, hide hb, hide rfl, hide (RunS.start _ _), hide (Nat.le_refl _), by omega, by omega, hide ha, hB⟩
  case round =>
    clear ha hb hB
    obtain ⟨i, D, m, stv, opv, dv, now, LT, hi, rfl, HX, HLT, HR, HDl, hLT, hnow, HA, hB⟩ := hrel
    have hop := HR.out.op.val
    obtain ⟨oa, oc, hov, -, -⟩ := HR.out.op.ty.row.len
    obtain ⟨sa, sc, hsv, -, -⟩ := HR.out.st.val
    obtain ⟨da, dc, hdv, -, -⟩ := HR.out.dn.ty.row.len
    obtain ⟨on, hon⟩ : ∃ n, n = (ldOf D m).opn.length := ⟨_, rfl⟩
    obtain ⟨sn, hsn⟩ : ∃ n, n = (ldOf D m).st.length := ⟨_, rfl⟩
    obtain ⟨dn, hdn⟩ : ∃ n, n = D.length := ⟨_, rfl⟩
    rw [← hon] at hov
    rw [← hsn] at hsv
    rw [← hdn] at hdv
    subst hov hsv hdv
    have HLen := hide (And.intro hon (And.intro hsn hdn))
    clear hon hsn hdn
    have hw8 : w.heap.size + 1 < wr.heap.size := HX.out.2.2
    have hz := hB.size
    by_cases hlt : i < l.length
    · obtain ⟨b, off, cap', x, hbv, hlt0, hc, hrd, hdN, -⟩ := DdR.at_ (HI.out) (i := i) hlt
      cases hbv
      have x0 := (hB.cell (p := ⟨_, _, none⟩) hlt0).trans (hc 0 _ rfl)
      have x1 := (hB.cell (p := ⟨_, _, none⟩) hlt0).trans (hc 1 _ rfl)
      have x2 := (hB.cell (p := ⟨_, _, none⟩) hlt0).trans (hc 2 _ rfl)
      have x3 := (hB.cell (p := ⟨_, _, none⟩) hlt0).trans (hc 3 _ rfl)
      have x4 := (hB.cell (p := ⟨_, _, none⟩) hlt0).trans (hc 4 _ rfl)
      have x5 := (hB.cell (p := ⟨_, _, none⟩) hlt0).trans (hc 5 _ rfl)
      have x6 := (hB.cell (p := ⟨_, _, none⟩) hlt0).trans (hc 6 _ rfl)
      have x7 := (hB.cell (p := ⟨_, _, none⟩) hlt0).trans (hc 7 _ rfl)
      have HRd := hide (fun (V : World) (hV : Below w.heap.size w V) => hrd.below (Nat.le_refl _) hV)
      obtain ⟨xr, xw, ⟨ti, tt, rl, wl⟩, af, lf, rt, lk⟩ := x
      dsimp only at hrd
      obtain ⟨ra, rc, hxr, -⟩ := id hrd.1
      obtain ⟨wa, wc, hxw, -⟩ := id hrd.2
      dsimp only at hxr hxw
      subst hxr hxw
      unfold DdN at hdN
      dsimp only at hdN x0 x1 x2 x3 x4 x5 x6 x7
      simp only [Nat.add_zero] at x0
      have I1 : (0 : Int) ≤ (i : Int) := by omega
      have I2 : (i : Int) < (l.length : Int) := by omega
      clear hc hrd
      obtain ⟨W5, hW5⟩ : ∃ V, V = wr.alloc (.cells #[.int .i64 ti, .int .i64 tt, .slice ra rl.length rc, .slice wa wl.length wc, .int .u32 af, .int .u16 lf, .int .u16 rt, .bool lk] 31) := ⟨_, rfl⟩
      have h5 : BxC W5 wr.heap.size [.int .i64 ti, .int .i64 tt, .slice ra rl.length rc, .slice wa wl.length wc, .int .u32 af, .int .u16 lf, .int .u16 rt, .bool lk] := by rw [hW5]; exact BxC.made wr _ _
      have b5 : Below wr.heap.size wr W5 := by rw [hW5]; ((with_reducible repeat' first | exact .refl _ _ | refine .alloc ?_ ?_ _ | refine .setCell ?_ ?_ _ | refine .drew ?_ | refine below_drewN ?_ _) <;> first | omega | simp <;> omega)
      have hX := HX.out.below hw8 b5
      have hA := HA.out.below HA.out.2.2 b5
      have hR := HR.out.below b5
      have hB5 := hB.trans (b5.mono hz)
      obtain ⟨B5, hB5e⟩ : ∃ b, b = wr.heap.size := ⟨_, rfl⟩
      have hb5l : w.heap.size + 2 ≤ B5 := by omega
      go_upto_region 5 with fail
      rw [← hW5]
      rw [← hB5e] at h5 ⊢
      clear hW5 x0 x1 x2 x3 x4 x5 x6 x7 hB5e b5 HX HA HR hB
      have chX_0 := hX.1 0 _ rfl; have chX_1 := hX.1 1 _ rfl; have chX_2 := hX.1 2 _ rfl; have chX_3 := hX.1 3 _ rfl; have chX_4 := hX.1 4 _ rfl; have chX_5 := hX.1 5 _ rfl; have fhX := hX.2.1; have zhX := hX.2.2
      have ch5_0 := h5.1 0 _ rfl; have ch5_1 := h5.1 1 _ rfl; have ch5_2 := h5.1 2 _ rfl; have ch5_3 := h5.1 3 _ rfl; have ch5_4 := h5.1 4 _ rfl; have ch5_5 := h5.1 5 _ rfl; have ch5_6 := h5.1 6 _ rfl; have ch5_7 := h5.1 7 _ rfl; have fh5 := h5.2.1; have zh5 := h5.2.2
      obtain ⟨nw, hnw⟩ : ∃ n, n = now + af := ⟨_, rfl⟩
      have w1_ : IntKind.i64.wrap af = af := by rw [IntKind.wrap_i64]; omega
      have w2_ : IntKind.i64.wrap (now + af) = nw := by rw [IntKind.wrap_i64]; omega
      have hnw2 : 0 ≤ nw ∧ nw ≤ 5000000000 * i + 4294967295 := by omega
      clear hnw
      go_upto_region 6 with fail
      obtain ⟨W6, hW6⟩ : ∃ V, V = W5.setCell ⟨w.heap.size + 1, 4, none⟩ (.int .i64 nw) := ⟨_, rfl⟩
      have hX6 : BxC W6 (w.heap.size + 1) [.int .i64 LT, .slice sa sn sc, .slice oa on oc, .slice da dn dc, .int .i64 nw, .bool true] := by rw [hW6]; exact hX.set 4 (.int .i64 nw) (by simp)
      have h56 : BxC W6 B5 [.int .i64 ti, .int .i64 tt, .slice ra rl.length rc, .slice wa wl.length wc, .int .u32 af, .int .u16 lf, .int .u16 rt, .bool lk] := by rw [hW6]; exact h5.setNe (p := ⟨w.heap.size + 1, 4, none⟩) (by dsimp only; omega) _
      have hA6 : BxC W6 w.heap.size [.int .i64 0, .slice none 0 0, .slice none 0 0, .slice none 0 0, .int .i64 0, .bool false] := by rw [hW6]; exact hA.setNe (p := ⟨w.heap.size + 1, 4, none⟩) (by dsimp only; omega) _
      have hR6 : RunS W6 (w.heap.size + 2) D m (.slice sa sn sc) (.slice oa on oc) (.slice da dn dc) := by rw [hW6]; exact hR.set (p := ⟨w.heap.size + 1, 4, none⟩) (by dsimp only; omega) _
      have hB6 : Below w.heap.size w W6 := by rw [hW6]; exact hB5.setCell (p := ⟨w.heap.size + 1, 4, none⟩) (Nat.le_succ _) _
      rw [← hW6]
      clear chX_0 chX_1 chX_2 chX_3 chX_4 chX_5 fhX zhX hX
      clear ch5_0 ch5_1 ch5_2 ch5_3 ch5_4 ch5_5 ch5_6 ch5_7 fh5 zh5 h5
      clear hW6 hA hR hB5
      have chX6_0 := hX6.1 0 _ rfl; have chX6_1 := hX6.1 1 _ rfl; have chX6_2 := hX6.1 2 _ rfl; have chX6_3 := hX6.1 3 _ rfl; have chX6_4 := hX6.1 4 _ rfl; have chX6_5 := hX6.1 5 _ rfl; have fhX6 := hX6.2.1; have zhX6 := hX6.2.2
      have ch56_0 := h56.1 0 _ rfl; have ch56_1 := h56.1 1 _ rfl; have ch56_2 := h56.1 2 _ rfl; have ch56_3 := h56.1 3 _ rfl; have ch56_4 := h56.1 4 _ rfl; have ch56_5 := h56.1 5 _ rfl; have ch56_6 := h56.1 6 _ rfl; have ch56_7 := h56.1 7 _ rfl; have fh56 := h56.2.1; have zh56 := h56.2.2
      have HAr := hide (Around_any nw lf rt W6 (by omega) hdN.2.1 hdN.2.2)
      have hval := around_valid (a := nw) (l := lf) (r := rt) (by omega) hdN.2.1 hdN.2.2
      have hhi : arHi nw rt ≤ 5000000000 * (i + 1) := by rw [hval.2]; omega
      have hval1 := hval.1
      obtain ⟨lo, hlo⟩ : ∃ x, x = arLo nw lf := ⟨_, rfl⟩
      obtain ⟨hi', hhi'⟩ : ∃ x, x = arHi nw rt := ⟨_, rfl⟩
      rw [← hlo, ← hhi'] at HAr hval1
      rw [← hhi'] at hhi
      clear hval hlo hhi'
      go_upto_region 7 with (go_at_call 18; (with_reducible refine HAr.out.mono ?_); rintro e w7 ⟨rfl, k7⟩)
      have z67 := k7.size
      obtain ⟨W8, hW8⟩ : ∃ V, V = w7.alloc (.cells #[.int .i64 lo, .int .i64 hi'] 62) := ⟨_, rfl⟩
      have k8 : Below W6.heap.size W6 W8 := by rw [hW8]; ((with_reducible repeat' first | exact .refl _ _ | exact k7 | refine .alloc ?_ ?_ _ | refine .setCell ?_ ?_ _ | refine .drew ?_ | refine below_drewN ?_ _ | refine Below.trans ?_ (k7.mono ?_)) <;> first | omega | simp <;> omega)
      have h6 : BxC W8 w7.heap.size [.int .i64 lo, .int .i64 hi'] := by rw [hW8]; exact BxC.made w7 _ _
      have hX := hX6.below hX6.2.2 k8
      have h5 := h56.below h56.2.2 k8
      have hA := hA6.below hA6.2.2 k8
      have hR := hR6.below k8
      have z68 := k8.size
      have z6w := hB6.size
      have hB := hB6.trans (k8.mono hB6.size)
      rw [← hW8]
      obtain ⟨B6, hB6e⟩ : ∃ b, b = w7.heap.size := ⟨_, rfl⟩
      have hb6l : w.heap.size + 2 ≤ B6 := by have := hX6.2.2; have := h56.2.2; omega
      rw [← hB6e] at h6 ⊢
      clear chX6_0 chX6_1 chX6_2 chX6_3 chX6_4 chX6_5 fhX6 zhX6 hX6
      clear ch56_0 ch56_1 ch56_2 ch56_3 ch56_4 ch56_5 ch56_6 ch56_7 fh56 zh56 h56
      clear hW8 hA6 hR6 hB6 k7 k8 HAr z67 hB6e
      have chX_0 := hX.1 0 _ rfl; have chX_1 := hX.1 1 _ rfl; have chX_2 := hX.1 2 _ rfl; have chX_3 := hX.1 3 _ rfl; have chX_4 := hX.1 4 _ rfl; have chX_5 := hX.1 5 _ rfl; have fhX := hX.2.1; have zhX := hX.2.2
      have ch5_0 := h5.1 0 _ rfl; have ch5_1 := h5.1 1 _ rfl; have ch5_2 := h5.1 2 _ rfl; have ch5_3 := h5.1 3 _ rfl; have ch5_4 := h5.1 4 _ rfl; have ch5_5 := h5.1 5 _ rfl; have ch5_6 := h5.1 6 _ rfl; have ch5_7 := h5.1 7 _ rfl; have fh5 := h5.2.1; have zh5 := h5.2.2
      have ch6_0 := h6.1 0 _ rfl; have ch6_1 := h6.1 1 _ rfl; have fh6 := h6.2.1; have zh6 := h6.2.2
      cases lk with
      | true =>
        have hm_ := ldOf_vl hR.g (by have := HDl.out; omega) m
        have hol_ : (ldOf D m).opn.length ≤ 100 := by have h_ : (ldOf D m).opn.length = D.length - m := List.length_drop ..; have := HDl.out; omega
        have HSh := hide (Show_any (.slice sa sn sc) (.slice oa on oc) (ldOf D m) lo hi' W8 hR.ld hm_ hol_ hop hval1)
        unfold ShowPost at HSh
        rw [show (ldOf D m).last = LT from HLT.out.symm] at HSh
        dsimp only [valL] at HSh
        clear hm_ hol_ hop HLen
        have zW8 := hB.size
        go_wp2_with fail
        refine HSh.out.mono ?_
        rintro e w9 ⟨⟨n, sv2, ov2, tv2, rfl, hn, -, -, ho1, ho2⟩, k9⟩
        have z9 := k9.size
        have hR9 := hR.shown k9 (by have := hX.2.2; omega) hn ho1 ho2
        have hX2 := hX.below hX.2.2 k9
        have hA2 := hA.below hA.2.2 k9
        have h52 := h5.below h5.2.2 k9
        have h62 := h6.below h6.2.2 k9
        have hB2 := hB.trans (k9.mono zW8)
        clear chX_0 chX_1 chX_2 chX_3 chX_4 chX_5 fhX zhX hX
        clear ch5_0 ch5_1 ch5_2 ch5_3 ch5_4 ch5_5 ch5_6 ch5_7 fh5 zh5 h5
        clear ch6_0 ch6_1 fh6 zh6 h6
        clear hA hB HSh hR k9
        obtain ⟨sa2, sc2, hsv2, -, -⟩ := ho1.val
        obtain ⟨oa2, oc2, hov2, -, -⟩ := ho2.ty.row.len
        have hop := ho2.val
        obtain ⟨sn2, hsn2⟩ : ∃ n_, n_ = (stF (ldOf D m).st (evs ((ldOf D m).opn.take n))).length := ⟨_, rfl⟩
        obtain ⟨on2, hon2⟩ : ∃ n_, n_ = ((ldOf D m).opn.drop n).length := ⟨_, rfl⟩
        rw [← hsn2] at hsv2
        rw [← hon2] at hov2
        subst hsv2 hov2
        clear ho1 ho2 hn hsn2 hon2
        obtain ⟨W10, hW10⟩ : ∃ V, V = w9.alloc (.cells #[.int .i64 LT, .slice sa2 sn2 sc2, .slice oa2 on2 oc2] 38) := ⟨_, rfl⟩
        have k10 : Below w9.heap.size w9 W10 := by rw [hW10]; ((with_reducible repeat' first | exact .refl _ _ | refine .alloc ?_ ?_ _ | refine .setCell ?_ ?_ _ | refine .drew ?_ | refine below_drewN ?_ _) <;> first | omega | simp <;> omega)
        have h7 : BxC W10 w9.heap.size [.int .i64 LT, .slice sa2 sn2 sc2, .slice oa2 on2 oc2] := by rw [hW10]; exact BxC.made w9 _ _
        have hX := hX2.below hX2.2.2 k10
        have hA := hA2.below hA2.2.2 k10
        have h5 := h52.below h52.2.2 k10
        have h6 := h62.below h62.2.2 k10
        have hR := hR9.below k10
        have zB9 := hB2.size
        have hB := hB2.trans (k10.mono zB9)
        go_upto_region 9 with fail
        rw [← hW10]
        clear hW10 hX2 hA2 h52 h62 hR9 hB2 k10
        have chX_0 := hX.1 0 _ rfl; have chX_1 := hX.1 1 _ rfl; have chX_2 := hX.1 2 _ rfl; have chX_3 := hX.1 3 _ rfl; have chX_4 := hX.1 4 _ rfl; have chX_5 := hX.1 5 _ rfl; have fhX := hX.2.1; have zhX := hX.2.2
        have ch7_0 := h7.1 0 _ rfl; have ch7_1 := h7.1 1 _ rfl; have ch7_2 := h7.1 2 _ rfl; have fh7 := h7.2.1; have zh7 := h7.2.2
        go_upto_region 13 with fail
        obtain ⟨W11, hW11⟩ : ∃ V, V = (((W10.setCell ⟨w.heap.size + 1, 0, none⟩ (.int .i64 LT)).setCell ⟨w.heap.size + 1, 1, none⟩ (.slice sa2 sn2 sc2)).setCell ⟨w.heap.size + 1, 2, none⟩ (.slice oa2 on2 oc2)) := ⟨_, rfl⟩
        have hX11 : BxC W11 (w.heap.size + 1) [.int .i64 LT, .slice sa2 sn2 sc2, .slice oa2 on2 oc2, .slice da dn dc, .int .i64 nw, .bool true] := by rw [hW11]; exact (((hX.set 0 (.int .i64 LT) (by simp)).set 1 (.slice sa2 sn2 sc2) (by simp)).set 2 (.slice oa2 on2 oc2) (by simp))
        have h511 : BxC W11 B5 [.int .i64 ti, .int .i64 tt, .slice ra rl.length rc, .slice wa wl.length wc, .int .u32 af, .int .u16 lf, .int .u16 rt, .bool true] := by rw [hW11]; exact (((h5.setNe (p := ⟨w.heap.size + 1, 0, none⟩) (by dsimp only; omega) (.int .i64 LT)).setNe (p := ⟨w.heap.size + 1, 1, none⟩) (by dsimp only; omega) (.slice sa2 sn2 sc2)).setNe (p := ⟨w.heap.size + 1, 2, none⟩) (by dsimp only; omega) (.slice oa2 on2 oc2))
        have hA11 : BxC W11 w.heap.size [.int .i64 0, .slice none 0 0, .slice none 0 0, .slice none 0 0, .int .i64 0, .bool false] := by rw [hW11]; exact (((hA.setNe (p := ⟨w.heap.size + 1, 0, none⟩) (by dsimp only; omega) (.int .i64 LT)).setNe (p := ⟨w.heap.size + 1, 1, none⟩) (by dsimp only; omega) (.slice sa2 sn2 sc2)).setNe (p := ⟨w.heap.size + 1, 2, none⟩) (by dsimp only; omega) (.slice oa2 on2 oc2))
        have h611 : BxC W11 B6 [.int .i64 lo, .int .i64 hi'] := by rw [hW11]; exact (((h6.setNe (p := ⟨w.heap.size + 1, 0, none⟩) (by dsimp only; omega) (.int .i64 LT)).setNe (p := ⟨w.heap.size + 1, 1, none⟩) (by dsimp only; omega) (.slice sa2 sn2 sc2)).setNe (p := ⟨w.heap.size + 1, 2, none⟩) (by dsimp only; omega) (.slice oa2 on2 oc2))
        have hR11 : RunS W11 (w.heap.size + 2) D (m + n) (.slice sa2 sn2 sc2) (.slice oa2 on2 oc2) (.slice da dn dc) := by rw [hW11]; exact (((hR.set (p := ⟨w.heap.size + 1, 0, none⟩) (by dsimp only; omega) (.int .i64 LT)).set (p := ⟨w.heap.size + 1, 1, none⟩) (by dsimp only; omega) (.slice sa2 sn2 sc2)).set (p := ⟨w.heap.size + 1, 2, none⟩) (by dsimp only; omega) (.slice oa2 on2 oc2))
        have hB11 : Below w.heap.size w W11 := by rw [hW11]; exact (((hB.setCell (p := ⟨w.heap.size + 1, 0, none⟩) (Nat.le_succ _) (.int .i64 LT)).setCell (p := ⟨w.heap.size + 1, 1, none⟩) (Nat.le_succ _) (.slice sa2 sn2 sc2)).setCell (p := ⟨w.heap.size + 1, 2, none⟩) (Nat.le_succ _) (.slice oa2 on2 oc2))
        rw [← hW11]
        clear chX_0 chX_1 chX_2 chX_3 chX_4 chX_5 fhX zhX hX
        clear ch7_0 ch7_1 ch7_2 fh7 zh7 h7
        clear hW11 h5 hA h6 hR hB
        have hX := hX11
        have h5 := h511
        have hA := hA11
        have h6 := h611
        have hR := hR11
        have hB := hB11
        have HLen := trivial
        clear hX11 h511 hA11 h611 hR11 hB11
        have chX_0 := hX.1 0 _ rfl; have chX_1 := hX.1 1 _ rfl; have chX_2 := hX.1 2 _ rfl; have chX_3 := hX.1 3 _ rfl; have chX_4 := hX.1 4 _ rfl; have chX_5 := hX.1 5 _ rfl; have fhX := hX.2.1; have zhX := hX.2.2
        have ch5_0 := h5.1 0 _ rfl; have ch5_1 := h5.1 1 _ rfl; have ch5_2 := h5.1 2 _ rfl; have ch5_3 := h5.1 3 _ rfl; have ch5_4 := h5.1 4 _ rfl; have ch5_5 := h5.1 5 _ rfl; have ch5_6 := h5.1 6 _ rfl; have ch5_7 := h5.1 7 _ rfl; have fh5 := h5.2.1; have zh5 := h5.2.2
        have ch6_0 := h6.1 0 _ rfl; have ch6_1 := h6.1 1 _ rfl; have fh6 := h6.2.1; have zh6 := h6.2.2
        have hm_ := ldOf_vl hR.g (by have := HDl.out; omega) (m + n)
        have hsz_ := ld_size hR.g (m + n)
        have hol_ : (ldOf D (m + n)).opn.length ≤ 100 := by have h_ : (ldOf D (m + n)).opn.length = D.length - (m + n) := List.length_drop ..; have := HDl.out; omega
        have HSt := hide (Stamp_any (.slice sa2 sn2 sc2) (.slice oa2 on2 oc2) (.slice ra rl.length rc) (.slice wa wl.length wc) (ldOf D (m + n)) ⟨ti, tt, rl, wl⟩ lo hi' W11 hR.ld hm_ hol_ (by have := HDl.out; omega) (HRd.out _ hB) hval1)
        unfold StampPost at HSt
        rw [show (ldOf D (m + n)).last = LT from HLT.out.symm] at HSt
        dsimp only [valL, valT] at HSt
        clear hm_ hsz_ hol_ HLen hop
        have zW := hB.size
        go_wp2_with fail
        refine HSt.out.mono ?_
        rintro e w12 ⟨hpo, k12⟩
        have z12 := k12.size
        have hX2 := hX.below hX.2.2 k12
        have hA2 := hA.below hA.2.2 k12
        have hB2 := hB.trans (k12.mono zW)
        have hw2 : w.heap.size + 1 < W11.heap.size := hX.2.2
        clear chX_0 chX_1 chX_2 chX_3 chX_4 chX_5 fhX zhX hX
        clear ch5_0 ch5_1 ch5_2 ch5_3 ch5_4 ch5_5 ch5_6 ch5_7 fh5 zh5 h5
        clear ch6_0 ch6_1 fh6 zh6 h6
        clear hA hB HSt
        rcases hpo with ⟨xe, hxe, rfl⟩ | ⟨sv3, ov3, rv3, wv3, rfl, hfm, ho1, ho2, hty, hlc⟩
        · have e1 : (xe == 0) = false := by rw [beq_eq_false_iff_ne]; exact hxe
          have e2 : decide (xe = 0) = false := decide_eq_false hxe
          have hR2 := hR.below k12
          clear hR k12
          go_wp2_with fail
          go_roundw
          case rel => exact ⟨i + 1, D, (m + n), _, _, _, nw, LT, by omega, by go_num, hide ((hX2.alloc _).alloc _), HLT, hide (hR2.below (by ((with_reducible repeat' first | exact .refl _ _ | refine .alloc ?_ ?_ _ | refine .setCell ?_ ?_ _ | refine .drew ?_ | refine below_drewN ?_ _) <;> first | omega | simp <;> omega))), hide (by have := HDl.out; omega), by omega, by omega, hide ((hA2.alloc _).alloc _), (by ((with_reducible repeat' first | exact .refl _ _ | exact hB2 | refine .alloc ?_ ?_ _ | refine .setCell ?_ ?_ _ | refine .drew ?_ | refine below_drewN ?_ _ | refine Below.trans ?_ (hB2.mono ?_)) <;> first | omega | simp <;> omega))⟩
          case measure => simp [intOf]; omega
        · obtain ⟨TT, hTT⟩ : ∃ x, x = mx (LT + 1) hi' := ⟨_, rfl⟩
          rw [← hTT] at hfm ho2 hty ⊢
          have hTTb : LT < TT ∧ TT ≤ 5000000000 * (i + 1) := by
            have := mx_spec (LT + 1) hi'
            rw [← hTT] at this
            omega
          have hdvlt := fun r hr => Nat.lt_of_lt_of_le (hR.dn.lt r hr).2 z12
          have hP := RunP.made hR k12 (by omega) ho1 ho2 hty hlc hfm (by rw [← HLT.out]; exact hTTb.1)
          obtain ⟨sa3, sc3, hsv3, -, -⟩ := ho1.val
          obtain ⟨oa3, oc3, hov3, -, -⟩ := ho2.ty.row.len
          obtain ⟨ra3, rc3, hrv3, -⟩ := id hty.1.1
          obtain ⟨wa3, wc3, hwv3, -⟩ := id hty.2.1
          try dsimp only at hrv3 hwv3
          obtain ⟨sn3, hsn3⟩ : ∃ n_, n_ = (ldOf D (m + n)).st.length := ⟨_, rfl⟩
          obtain ⟨on3, hon3⟩ : ∃ n_, n_ = ((ldOf D (m + n)).opn ++ [(⟨ti, TT, rl, wl⟩ : Tx)]).length := ⟨_, rfl⟩
          rw [← hsn3] at hsv3
          try dsimp only at hov3
          rw [← hon3] at hov3
          subst hsv3 hov3 hrv3 hwv3
          clear hR k12 hTT ho1 ho2 hty hlc hfm hsn3 hon3
          obtain ⟨W13, hW13⟩ : ∃ V, V = (w12.alloc (.cells #[.int .i64 TT, .slice sa3 sn3 sc3, .slice oa3 on3 oc3] 38)).alloc (.cells #[.int .i64 ti, .int .i64 TT, .slice ra3 rl.length rc3, .slice wa3 wl.length wc3] 28) := ⟨_, rfl⟩
          have k13 : Below w12.heap.size w12 W13 := by rw [hW13]; ((with_reducible repeat' first | exact .refl _ _ | refine .alloc ?_ ?_ _ | refine .setCell ?_ ?_ _ | refine .drew ?_ | refine below_drewN ?_ _) <;> first | omega | simp <;> omega)
          have hL10 : BxC W13 w12.heap.size [.int .i64 TT, .slice sa3 sn3 sc3, .slice oa3 on3 oc3] := by rw [hW13]; exact (BxC.made w12 _ _).alloc _
          have hL11 : BxC W13 (w12.heap.size + 1) [.int .i64 ti, .int .i64 TT, .slice ra3 rl.length rc3, .slice wa3 wl.length wc3] := by
            have h_ := BxC.made (w12.alloc (.cells #[.int .i64 TT, .slice sa3 sn3 sc3, .slice oa3 on3 oc3] 38)) [.int .i64 ti, .int .i64 TT, .slice ra3 rl.length rc3, .slice wa3 wl.length wc3] 28
            rw [World.size_alloc] at h_
            rw [hW13]; exact h_
          have hP3 := hP.below k13
          have hX := hX2.below hX2.2.2 k13
          have hA := hA2.below hA2.2.2 k13
          have hB := hB2.trans (k13.mono hB2.size)
          have zB12 := hB2.size
          go_upto_region 14 with fail
          rw [← hW13]
          clear hW13 hX2 hA2 hB2 hP k13
          obtain ⟨B10, hB10e⟩ : ∃ b, b = w12.heap.size := ⟨_, rfl⟩
          rw [← hB10e] at hL10 hL11 hdvlt ⊢
          have hb10 : w.heap.size + 2 ≤ B10 := by omega
          clear hB10e
          have chX_0 := hX.1 0 _ rfl; have chX_1 := hX.1 1 _ rfl; have chX_2 := hX.1 2 _ rfl; have chX_3 := hX.1 3 _ rfl; have chX_4 := hX.1 4 _ rfl; have chX_5 := hX.1 5 _ rfl; have fhX := hX.2.1; have zhX := hX.2.2
          have chL10_0 := hL10.1 0 _ rfl; have chL10_1 := hL10.1 1 _ rfl; have chL10_2 := hL10.1 2 _ rfl; have fhL10 := hL10.2.1; have zhL10 := hL10.2.2
          have chL11_0 := hL11.1 0 _ rfl; have chL11_1 := hL11.1 1 _ rfl; have chL11_2 := hL11.1 2 _ rfl; have chL11_3 := hL11.1 3 _ rfl; have fhL11 := hL11.2.1; have zhL11 := hL11.2.2
          obtain ⟨xs, hx1, hx2, hx3⟩ := hP3.dn
          obtain ⟨i0, hi0, hz0, hz1, hz2⟩ := info_parts infoTx
          have hxl : xs.length = dn := by
            obtain ⟨a_, c_, e_⟩ : ∃ a c, Value.slice da dn dc = .slice a xs.length c := ownsRow_val hx2
            simp only [Value.slice.injEq] at e_
            exact e_.2.1.symm
          have hxb : xs.length ≤ 100000 := by have := HDl.out; have h_ : xs.length = D.length := by rw [← hx1, List.length_map]
                                              omega
          have HP := hide hP3
          have HX1 := hide hx1
          have HX2 := hide hx2
          have HX3 := hide hx3
          have hlow := World.ownsRow.lt hx2
          have Hlow := hide hlow
          have HXL := hide hxl
          have hdn : dn ≤ 100000 := by omega
          have HEo := hide (encT_one (x := ⟨.slice ra3 rl.length rc3, .slice wa3 wl.length wc3, ⟨ti, TT, rl, wl⟩⟩) hP3.ty.1)
          have hz13 := hB.size
          have zd : W13.drew.heap.size = W13.heap.size := rfl
          have HXx := hide hX
          have HL10 := hide hL10
          have hsepB : ∀ r, (Value.slice da dn dc).ownBlock = some r → r ≠ B10 := fun r hr => by have h_ := hdvlt r hr; omega
          have HAx := hide hA
          clear hP3 hx1 hx2 hx3 hlow hxl hX hA
          go_upto_region 15 with fail
          go_region_law (refine step_append_src rfl (.tmp 64) (.tmp 66) 35 rfl (w.heap.size + 2) 28 i0 (.agg #[.int .i64 0, .int .i64 0, .slice none 0 0, .slice none 0 0]) 4 64 Tryz.underlying35 hi0 hz0 hz1 hz2 rfl (by decide) (.slice da dn dc) dn (xs.flatMap encT) (by simp [Act.eval, Act.put]) (World.ownsRow.alloc (ownsRow_below (by have h_ := HX2.out; unfold Owns at h_; rw [HXL.out] at h_; exact h_) (Below.refl _ _).drew) _) (.slice (some ⟨W13.heap.size, 0, none⟩) 1 1) 1 (encT ⟨.slice ra3 rl.length rc3, .slice wa3 wl.length wc3, ⟨ti, TT, rl, wl⟩⟩) (by simp [Act.eval, Act.put]) ⟨_, _, rfl, rfl, (fun h => by cases h), fun ad h => by cases h; exact cells_new W13.drew _ _⟩ HEo.out (by unfold maxLen; omega) (by omega) (by simp; omega) ?_
                         intro v14 w14 hown14 hg14 hnew14
                         obtain ⟨a14, c14, rfl⟩ := ownsRow_val hown14
                         have hX14 := ((HXx.out.same (W := W13.drew) (Nat.le_refl _) rfl).alloc (.cells #[.int .i64 ti, .int .i64 TT, .slice ra3 rl.length rc3, .slice wa3 wl.length wc3] 28)).grown hg14 (fun e => by have := (Hlow.out _ e.symm).1; omega)
                         have hA14 := ((HAx.out.same (W := W13.drew) (Nat.le_refl _) rfl).alloc (.cells #[.int .i64 ti, .int .i64 TT, .slice ra3 rl.length rc3, .slice wa3 wl.length wc3] 28)).grown hg14 (fun e => by have := (Hlow.out _ e.symm).1; omega)
                         have hB14 : Below w.heap.size w w14 := Below.grown (hB.drew.alloc (by simp; omega) _) hg14 (by simp; omega) (fun r e => by have := (Hlow.out r e).1; omega)
                         have hR14 := RunP.push (HP.out.below (Below.refl _ _).drew) HX1.out (Owns.below HX2.out (Nat.le_refl _) (Below.refl _ _).drew) (fun y hy => ⟨(HX3.out y hy).1.below (Nat.le_refl _) (Below.refl _ _).drew, (HX3.out y hy).2⟩) hg14 (by rw [HXL.out]; exact hown14) (fun r hr => by
                           rcases hnew14 with h_ | h_
                           · exact .inl (by rw [← h_]; exact hr)
                           · rw [h_] at hr
                             simp at hr
                             exact .inr (by rw [zd]; omega))
                         have hL14 := ((HL10.out.same (W := W13.drew) (Nat.le_refl _) rfl).alloc (.cells #[.int .i64 ti, .int .i64 TT, .slice ra3 rl.length rc3, .slice wa3 wl.length wc3] 28)).grown hg14 (fun e => hsepB _ e.symm rfl)
                         have u0_ := hL14.1 0 _ rfl
                         have u1_ := hL14.1 1 _ rfl
                         have u2_ := hL14.1 2 _ rfl
                         have HH14 := hide (And.intro hX14 (And.intro hA14 (And.intro hB14 hR14)))
                         have y0 := hX14.1 0 _ rfl
                         have y1 := hX14.1 1 _ rfl
                         have y2 := hX14.1 2 _ rfl
                         have y3 := hX14.1 3 _ rfl
                         have yf := hX14.2.1
                         have yz := hX14.2.2
                         clear hown14 hg14 hnew14 hX14 hA14 hB14 hR14 hL14)
          all_goals
            obtain ⟨hX14, hA14, hB14, hR14⟩ := HH14.out
            obtain ⟨V, hV⟩ : ∃ V, V = ((((w14.setCell ⟨w.heap.size + 1, 0, none⟩ (.int .i64 TT)).setCell ⟨w.heap.size + 1, 1, none⟩ (.slice sa3 sn3 sc3)).setCell ⟨w.heap.size + 1, 2, none⟩ (.slice oa3 on3 oc3)).setCell ⟨w.heap.size + 1, 3, none⟩ (.slice a14 (dn + 1) c14)) := ⟨_, rfl⟩
            have q3 : BxC V (w.heap.size + 1) [.int .i64 TT, .slice sa3 sn3 sc3, .slice oa3 on3 oc3, .slice a14 (dn + 1) c14, .int .i64 nw, .bool true] := by rw [hV]; exact ((((hX14.set 0 (.int .i64 TT) (by simp)).set 1 (.slice sa3 sn3 sc3) (by simp)).set 2 (.slice oa3 on3 oc3) (by simp)).set 3 (.slice a14 (dn + 1) c14) (by simp))
            have q2 : BxC V w.heap.size [.int .i64 0, .slice none 0 0, .slice none 0 0, .slice none 0 0, .int .i64 0, .bool false] := by rw [hV]; exact ((((hA14.setNe (p := ⟨w.heap.size + 1, 0, none⟩) (by dsimp only; omega) (.int .i64 TT)).setNe (p := ⟨w.heap.size + 1, 1, none⟩) (by dsimp only; omega) (.slice sa3 sn3 sc3)).setNe (p := ⟨w.heap.size + 1, 2, none⟩) (by dsimp only; omega) (.slice oa3 on3 oc3)).setNe (p := ⟨w.heap.size + 1, 3, none⟩) (by dsimp only; omega) (.slice a14 (dn + 1) c14))
            have qr : RunS V (w.heap.size + 2) (D ++ [⟨ti, TT, rl, wl⟩]) (m + n) (.slice sa3 sn3 sc3) (.slice oa3 on3 oc3) (.slice a14 (dn + 1) c14) := by rw [hV]; exact ((((hR14.set (p := ⟨w.heap.size + 1, 0, none⟩) (by dsimp only; omega) (.int .i64 TT)).set (p := ⟨w.heap.size + 1, 1, none⟩) (by dsimp only; omega) (.slice sa3 sn3 sc3)).set (p := ⟨w.heap.size + 1, 2, none⟩) (by dsimp only; omega) (.slice oa3 on3 oc3)).set (p := ⟨w.heap.size + 1, 3, none⟩) (by dsimp only; omega) (.slice a14 (dn + 1) c14))
            have qb : Below w.heap.size w V := by rw [hV]; exact ((((hB14.setCell (p := ⟨w.heap.size + 1, 0, none⟩) (Nat.le_succ _) (.int .i64 TT)).setCell (p := ⟨w.heap.size + 1, 1, none⟩) (Nat.le_succ _) (.slice sa3 sn3 sc3)).setCell (p := ⟨w.heap.size + 1, 2, none⟩) (Nat.le_succ _) (.slice oa3 on3 oc3)).setCell (p := ⟨w.heap.size + 1, 3, none⟩) (Nat.le_succ _) (.slice a14 (dn + 1) c14))
            rw [← hV]
            clear hV hX14 hA14 hB14 hR14 HH14 y0 y1 y2 y3 yf yz u0_ u1_ u2_
            go_wp2_with fail
            go_roundw
            case rel => exact ⟨i + 1, D ++ [⟨ti, TT, rl, wl⟩], (m + n), _, _, _, nw, TT, by omega, by go_num, hide q3, hide (by rw [topTs_snoc]), hide qr, hide (by rw [List.length_append]; have := HDl.out; exact Nat.succ_le_succ this), by omega, by omega, hide q2, qb⟩
            case measure => simp [intOf]; omega
      | false =>
        go_upto_region 13 with fail
        have hm_ := ldOf_vl hR.g (by have := HDl.out; omega) m
        have hsz_ := ld_size hR.g m
        have hol_ : (ldOf D m).opn.length ≤ 100 := by have h_ : (ldOf D m).opn.length = D.length - m := List.length_drop ..; have := HDl.out; omega
        have HSt := hide (Stamp_any (.slice sa sn sc) (.slice oa on oc) (.slice ra rl.length rc) (.slice wa wl.length wc) (ldOf D m) ⟨ti, tt, rl, wl⟩ lo hi' W8 hR.ld hm_ hol_ (by have := HDl.out; omega) (HRd.out _ hB) hval1)
        unfold StampPost at HSt
        rw [show (ldOf D m).last = LT from HLT.out.symm] at HSt
        dsimp only [valL, valT] at HSt
        clear hm_ hsz_ hol_ HLen hop
        have zW := hB.size
        go_wp2_with fail
        refine HSt.out.mono ?_
        rintro e w12 ⟨hpo, k12⟩
        have z12 := k12.size
        have hX2 := hX.below hX.2.2 k12
        have hA2 := hA.below hA.2.2 k12
        have hB2 := hB.trans (k12.mono zW)
        have hw2 : w.heap.size + 1 < W8.heap.size := hX.2.2
        clear chX_0 chX_1 chX_2 chX_3 chX_4 chX_5 fhX zhX hX
        clear ch5_0 ch5_1 ch5_2 ch5_3 ch5_4 ch5_5 ch5_6 ch5_7 fh5 zh5 h5
        clear ch6_0 ch6_1 fh6 zh6 h6
        clear hA hB HSt
        rcases hpo with ⟨xe, hxe, rfl⟩ | ⟨sv3, ov3, rv3, wv3, rfl, hfm, ho1, ho2, hty, hlc⟩
        · have e1 : (xe == 0) = false := by rw [beq_eq_false_iff_ne]; exact hxe
          have e2 : decide (xe = 0) = false := decide_eq_false hxe
          have hR2 := hR.below k12
          clear hR k12
          go_wp2_with fail
          go_roundw
          case rel => exact ⟨i + 1, D, m, _, _, _, nw, LT, by omega, by go_num, hide ((hX2.alloc _).alloc _), HLT, hide (hR2.below (by ((with_reducible repeat' first | exact .refl _ _ | refine .alloc ?_ ?_ _ | refine .setCell ?_ ?_ _ | refine .drew ?_ | refine below_drewN ?_ _) <;> first | omega | simp <;> omega))), hide (by have := HDl.out; omega), by omega, by omega, hide ((hA2.alloc _).alloc _), (by ((with_reducible repeat' first | exact .refl _ _ | exact hB2 | refine .alloc ?_ ?_ _ | refine .setCell ?_ ?_ _ | refine .drew ?_ | refine below_drewN ?_ _ | refine Below.trans ?_ (hB2.mono ?_)) <;> first | omega | simp <;> omega))⟩
          case measure => simp [intOf]; omega
        · obtain ⟨TT, hTT⟩ : ∃ x, x = mx (LT + 1) hi' := ⟨_, rfl⟩
          rw [← hTT] at hfm ho2 hty ⊢
          have hTTb : LT < TT ∧ TT ≤ 5000000000 * (i + 1) := by
            have := mx_spec (LT + 1) hi'
            rw [← hTT] at this
            omega
          have hdvlt := fun r hr => Nat.lt_of_lt_of_le (hR.dn.lt r hr).2 z12
          have hP := RunP.made hR k12 (by omega) ho1 ho2 hty hlc hfm (by rw [← HLT.out]; exact hTTb.1)
          obtain ⟨sa3, sc3, hsv3, -, -⟩ := ho1.val
          obtain ⟨oa3, oc3, hov3, -, -⟩ := ho2.ty.row.len
          obtain ⟨ra3, rc3, hrv3, -⟩ := id hty.1.1
          obtain ⟨wa3, wc3, hwv3, -⟩ := id hty.2.1
          try dsimp only at hrv3 hwv3
          obtain ⟨sn3, hsn3⟩ : ∃ n_, n_ = (ldOf D m).st.length := ⟨_, rfl⟩
          obtain ⟨on3, hon3⟩ : ∃ n_, n_ = ((ldOf D m).opn ++ [(⟨ti, TT, rl, wl⟩ : Tx)]).length := ⟨_, rfl⟩
          rw [← hsn3] at hsv3
          try dsimp only at hov3
          rw [← hon3] at hov3
          subst hsv3 hov3 hrv3 hwv3
          clear hR k12 hTT ho1 ho2 hty hlc hfm hsn3 hon3
          obtain ⟨W13, hW13⟩ : ∃ V, V = (w12.alloc (.cells #[.int .i64 TT, .slice sa3 sn3 sc3, .slice oa3 on3 oc3] 38)).alloc (.cells #[.int .i64 ti, .int .i64 TT, .slice ra3 rl.length rc3, .slice wa3 wl.length wc3] 28) := ⟨_, rfl⟩
          have k13 : Below w12.heap.size w12 W13 := by rw [hW13]; ((with_reducible repeat' first | exact .refl _ _ | refine .alloc ?_ ?_ _ | refine .setCell ?_ ?_ _ | refine .drew ?_ | refine below_drewN ?_ _) <;> first | omega | simp <;> omega)
          have hL10 : BxC W13 w12.heap.size [.int .i64 TT, .slice sa3 sn3 sc3, .slice oa3 on3 oc3] := by rw [hW13]; exact (BxC.made w12 _ _).alloc _
          have hL11 : BxC W13 (w12.heap.size + 1) [.int .i64 ti, .int .i64 TT, .slice ra3 rl.length rc3, .slice wa3 wl.length wc3] := by
            have h_ := BxC.made (w12.alloc (.cells #[.int .i64 TT, .slice sa3 sn3 sc3, .slice oa3 on3 oc3] 38)) [.int .i64 ti, .int .i64 TT, .slice ra3 rl.length rc3, .slice wa3 wl.length wc3] 28
            rw [World.size_alloc] at h_
            rw [hW13]; exact h_
          have hP3 := hP.below k13
          have hX := hX2.below hX2.2.2 k13
          have hA := hA2.below hA2.2.2 k13
          have hB := hB2.trans (k13.mono hB2.size)
          have zB12 := hB2.size
          go_upto_region 14 with fail
          rw [← hW13]
          clear hW13 hX2 hA2 hB2 hP k13
          obtain ⟨B10, hB10e⟩ : ∃ b, b = w12.heap.size := ⟨_, rfl⟩
          rw [← hB10e] at hL10 hL11 hdvlt ⊢
          have hb10 : w.heap.size + 2 ≤ B10 := by omega
          clear hB10e
          have chX_0 := hX.1 0 _ rfl; have chX_1 := hX.1 1 _ rfl; have chX_2 := hX.1 2 _ rfl; have chX_3 := hX.1 3 _ rfl; have chX_4 := hX.1 4 _ rfl; have chX_5 := hX.1 5 _ rfl; have fhX := hX.2.1; have zhX := hX.2.2
          have chL10_0 := hL10.1 0 _ rfl; have chL10_1 := hL10.1 1 _ rfl; have chL10_2 := hL10.1 2 _ rfl; have fhL10 := hL10.2.1; have zhL10 := hL10.2.2
          have chL11_0 := hL11.1 0 _ rfl; have chL11_1 := hL11.1 1 _ rfl; have chL11_2 := hL11.1 2 _ rfl; have chL11_3 := hL11.1 3 _ rfl; have fhL11 := hL11.2.1; have zhL11 := hL11.2.2
          obtain ⟨xs, hx1, hx2, hx3⟩ := hP3.dn
          obtain ⟨i0, hi0, hz0, hz1, hz2⟩ := info_parts infoTx
          have hxl : xs.length = dn := by
            obtain ⟨a_, c_, e_⟩ : ∃ a c, Value.slice da dn dc = .slice a xs.length c := ownsRow_val hx2
            simp only [Value.slice.injEq] at e_
            exact e_.2.1.symm
          have hxb : xs.length ≤ 100000 := by have := HDl.out; have h_ : xs.length = D.length := by rw [← hx1, List.length_map]
                                              omega
          have HP := hide hP3
          have HX1 := hide hx1
          have HX2 := hide hx2
          have HX3 := hide hx3
          have hlow := World.ownsRow.lt hx2
          have Hlow := hide hlow
          have HXL := hide hxl
          have hdn : dn ≤ 100000 := by omega
          have HEo := hide (encT_one (x := ⟨.slice ra3 rl.length rc3, .slice wa3 wl.length wc3, ⟨ti, TT, rl, wl⟩⟩) hP3.ty.1)
          have hz13 := hB.size
          have zd : W13.drew.heap.size = W13.heap.size := rfl
          have HXx := hide hX
          have HL10 := hide hL10
          have hsepB : ∀ r, (Value.slice da dn dc).ownBlock = some r → r ≠ B10 := fun r hr => by have h_ := hdvlt r hr; omega
          have HAx := hide hA
          clear hP3 hx1 hx2 hx3 hlow hxl hX hA
          go_upto_region 15 with fail
          go_region_law (refine step_append_src rfl (.tmp 64) (.tmp 66) 35 rfl (w.heap.size + 2) 28 i0 (.agg #[.int .i64 0, .int .i64 0, .slice none 0 0, .slice none 0 0]) 4 64 Tryz.underlying35 hi0 hz0 hz1 hz2 rfl (by decide) (.slice da dn dc) dn (xs.flatMap encT) (by simp [Act.eval, Act.put]) (World.ownsRow.alloc (ownsRow_below (by have h_ := HX2.out; unfold Owns at h_; rw [HXL.out] at h_; exact h_) (Below.refl _ _).drew) _) (.slice (some ⟨W13.heap.size, 0, none⟩) 1 1) 1 (encT ⟨.slice ra3 rl.length rc3, .slice wa3 wl.length wc3, ⟨ti, TT, rl, wl⟩⟩) (by simp [Act.eval, Act.put]) ⟨_, _, rfl, rfl, (fun h => by cases h), fun ad h => by cases h; exact cells_new W13.drew _ _⟩ HEo.out (by unfold maxLen; omega) (by omega) (by simp; omega) ?_
                         intro v14 w14 hown14 hg14 hnew14
                         obtain ⟨a14, c14, rfl⟩ := ownsRow_val hown14
                         have hX14 := ((HXx.out.same (W := W13.drew) (Nat.le_refl _) rfl).alloc (.cells #[.int .i64 ti, .int .i64 TT, .slice ra3 rl.length rc3, .slice wa3 wl.length wc3] 28)).grown hg14 (fun e => by have := (Hlow.out _ e.symm).1; omega)
                         have hA14 := ((HAx.out.same (W := W13.drew) (Nat.le_refl _) rfl).alloc (.cells #[.int .i64 ti, .int .i64 TT, .slice ra3 rl.length rc3, .slice wa3 wl.length wc3] 28)).grown hg14 (fun e => by have := (Hlow.out _ e.symm).1; omega)
                         have hB14 : Below w.heap.size w w14 := Below.grown (hB.drew.alloc (by simp; omega) _) hg14 (by simp; omega) (fun r e => by have := (Hlow.out r e).1; omega)
                         have hR14 := RunP.push (HP.out.below (Below.refl _ _).drew) HX1.out (Owns.below HX2.out (Nat.le_refl _) (Below.refl _ _).drew) (fun y hy => ⟨(HX3.out y hy).1.below (Nat.le_refl _) (Below.refl _ _).drew, (HX3.out y hy).2⟩) hg14 (by rw [HXL.out]; exact hown14) (fun r hr => by
                           rcases hnew14 with h_ | h_
                           · exact .inl (by rw [← h_]; exact hr)
                           · rw [h_] at hr
                             simp at hr
                             exact .inr (by rw [zd]; omega))
                         have hL14 := ((HL10.out.same (W := W13.drew) (Nat.le_refl _) rfl).alloc (.cells #[.int .i64 ti, .int .i64 TT, .slice ra3 rl.length rc3, .slice wa3 wl.length wc3] 28)).grown hg14 (fun e => hsepB _ e.symm rfl)
                         have u0_ := hL14.1 0 _ rfl
                         have u1_ := hL14.1 1 _ rfl
                         have u2_ := hL14.1 2 _ rfl
                         have HH14 := hide (And.intro hX14 (And.intro hA14 (And.intro hB14 hR14)))
                         have y0 := hX14.1 0 _ rfl
                         have y1 := hX14.1 1 _ rfl
                         have y2 := hX14.1 2 _ rfl
                         have y3 := hX14.1 3 _ rfl
                         have yf := hX14.2.1
                         have yz := hX14.2.2
                         clear hown14 hg14 hnew14 hX14 hA14 hB14 hR14 hL14)
          all_goals
            obtain ⟨hX14, hA14, hB14, hR14⟩ := HH14.out
            obtain ⟨V, hV⟩ : ∃ V, V = ((((w14.setCell ⟨w.heap.size + 1, 0, none⟩ (.int .i64 TT)).setCell ⟨w.heap.size + 1, 1, none⟩ (.slice sa3 sn3 sc3)).setCell ⟨w.heap.size + 1, 2, none⟩ (.slice oa3 on3 oc3)).setCell ⟨w.heap.size + 1, 3, none⟩ (.slice a14 (dn + 1) c14)) := ⟨_, rfl⟩
            have q3 : BxC V (w.heap.size + 1) [.int .i64 TT, .slice sa3 sn3 sc3, .slice oa3 on3 oc3, .slice a14 (dn + 1) c14, .int .i64 nw, .bool true] := by rw [hV]; exact ((((hX14.set 0 (.int .i64 TT) (by simp)).set 1 (.slice sa3 sn3 sc3) (by simp)).set 2 (.slice oa3 on3 oc3) (by simp)).set 3 (.slice a14 (dn + 1) c14) (by simp))
            have q2 : BxC V w.heap.size [.int .i64 0, .slice none 0 0, .slice none 0 0, .slice none 0 0, .int .i64 0, .bool false] := by rw [hV]; exact ((((hA14.setNe (p := ⟨w.heap.size + 1, 0, none⟩) (by dsimp only; omega) (.int .i64 TT)).setNe (p := ⟨w.heap.size + 1, 1, none⟩) (by dsimp only; omega) (.slice sa3 sn3 sc3)).setNe (p := ⟨w.heap.size + 1, 2, none⟩) (by dsimp only; omega) (.slice oa3 on3 oc3)).setNe (p := ⟨w.heap.size + 1, 3, none⟩) (by dsimp only; omega) (.slice a14 (dn + 1) c14))
            have qr : RunS V (w.heap.size + 2) (D ++ [⟨ti, TT, rl, wl⟩]) m (.slice sa3 sn3 sc3) (.slice oa3 on3 oc3) (.slice a14 (dn + 1) c14) := by rw [hV]; exact ((((hR14.set (p := ⟨w.heap.size + 1, 0, none⟩) (by dsimp only; omega) (.int .i64 TT)).set (p := ⟨w.heap.size + 1, 1, none⟩) (by dsimp only; omega) (.slice sa3 sn3 sc3)).set (p := ⟨w.heap.size + 1, 2, none⟩) (by dsimp only; omega) (.slice oa3 on3 oc3)).set (p := ⟨w.heap.size + 1, 3, none⟩) (by dsimp only; omega) (.slice a14 (dn + 1) c14))
            have qb : Below w.heap.size w V := by rw [hV]; exact ((((hB14.setCell (p := ⟨w.heap.size + 1, 0, none⟩) (Nat.le_succ _) (.int .i64 TT)).setCell (p := ⟨w.heap.size + 1, 1, none⟩) (Nat.le_succ _) (.slice sa3 sn3 sc3)).setCell (p := ⟨w.heap.size + 1, 2, none⟩) (Nat.le_succ _) (.slice oa3 on3 oc3)).setCell (p := ⟨w.heap.size + 1, 3, none⟩) (Nat.le_succ _) (.slice a14 (dn + 1) c14))
            rw [← hV]
            clear hV hX14 hA14 hB14 hR14 HH14 y0 y1 y2 y3 yf yz u0_ u1_ u2_
            go_wp2_with fail
            go_roundw
            case rel => exact ⟨i + 1, D ++ [⟨ti, TT, rl, wl⟩], m, _, _, _, nw, TT, by omega, by go_num, hide q3, hide (by rw [topTs_snoc]), hide qr, hide (by rw [List.length_append]; have := HDl.out; exact Nat.succ_le_succ this), by omega, by omega, hide q2, qb⟩
            case measure => simp [intOf]; omega
    · obtain rfl : i = l.length := by omega
      have hX := HX.out
      have hA := HA.out
      have chX_0 := hX.1 0 _ rfl; have chX_1 := hX.1 1 _ rfl; have chX_2 := hX.1 2 _ rfl; have chX_3 := hX.1 3 _ rfl; have chX_4 := hX.1 4 _ rfl; have chX_5 := hX.1 5 _ rfl; have fhX := hX.2.1; have zhX := hX.2.2
      have chA_0 := hA.1 0 _ rfl; have chA_1 := hA.1 1 _ rfl; have chA_2 := hA.1 2 _ rfl; have chA_3 := hA.1 3 _ rfl; have chA_4 := hA.1 4 _ rfl; have chA_5 := hA.1 5 _ rfl; have fhA := hA.2.1; have zhA := hA.2.2
      go_wp2_with fail
      obtain ⟨V, hV⟩ : ∃ V, V = ((((((wr.setCell ⟨w.heap.size, 0, none⟩ (.int .i64 LT)).setCell ⟨w.heap.size, 1, none⟩ (.slice sa sn sc)).setCell ⟨w.heap.size, 2, none⟩ (.slice oa on oc)).setCell ⟨w.heap.size, 3, none⟩ (.slice da dn dc)).setCell ⟨w.heap.size, 4, none⟩ (.int .i64 now)).setCell ⟨w.heap.size, 5, none⟩ (.bool true)) := ⟨_, rfl⟩
      have q3 : BxC V w.heap.size [.int .i64 LT, .slice sa sn sc, .slice oa on oc, .slice da dn dc, .int .i64 now, .bool true] := by rw [hV]; exact ((((((HA.out.set 0 (.int .i64 LT) (by simp)).set 1 (.slice sa sn sc) (by simp)).set 2 (.slice oa on oc) (by simp)).set 3 (.slice da dn dc) (by simp)).set 4 (.int .i64 now) (by simp)).set 5 (.bool true) (by simp))
      have qr : RunS V (w.heap.size + 2) D m (.slice sa sn sc) (.slice oa on oc) (.slice da dn dc) := by rw [hV]; exact ((((((HR.out.set (p := ⟨w.heap.size, 0, none⟩) (by dsimp only; omega) (.int .i64 LT)).set (p := ⟨w.heap.size, 1, none⟩) (by dsimp only; omega) (.slice sa sn sc)).set (p := ⟨w.heap.size, 2, none⟩) (by dsimp only; omega) (.slice oa on oc)).set (p := ⟨w.heap.size, 3, none⟩) (by dsimp only; omega) (.slice da dn dc)).set (p := ⟨w.heap.size, 4, none⟩) (by dsimp only; omega) (.int .i64 now)).set (p := ⟨w.heap.size, 5, none⟩) (by dsimp only; omega) (.bool true))
      have qb : Below w.heap.size w V := by rw [hV]; exact ((((((hB.setCell (p := ⟨w.heap.size, 0, none⟩) (Nat.le_refl _) (.int .i64 LT)).setCell (p := ⟨w.heap.size, 1, none⟩) (Nat.le_refl _) (.slice sa sn sc)).setCell (p := ⟨w.heap.size, 2, none⟩) (Nat.le_refl _) (.slice oa on oc)).setCell (p := ⟨w.heap.size, 3, none⟩) (Nat.le_refl _) (.slice da dn dc)).setCell (p := ⟨w.heap.size, 4, none⟩) (Nat.le_refl _) (.int .i64 now)).setCell (p := ⟨w.heap.size, 5, none⟩) (Nat.le_refl _) (.bool true))
      rw [← hV]
      clear hV
      have r0 := q3.1 0 _ rfl
      have r1 := q3.1 1 _ rfl
      have r2 := q3.1 2 _ rfl
      have r3 := q3.1 3 _ rfl
      have r4 := q3.1 4 _ rfl
      have r5 := q3.1 5 _ rfl
      exact bodyPost_ret (v := .agg #[.int .i64 LT, .slice sa sn sc, .slice oa on oc, .slice da dn dc, .int .i64 now, .bool true]) (by simp [results, Tryz.results7, go_sem, r0, r1, r2, r3, r4, r5]) rfl (HQ.out _ V D m _ _ _ now (by rw [← HLT.out]) (qr.mono (by omega)) HDl.out (by rw [← HLT.out]; exact hLT) hnow qb)
end Go.Proofs.YthkoaecafmhlcaaGreat
