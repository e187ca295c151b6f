
/- The reference of cert: cases. -/
import Derived.Test.YtlmcoollkmhanaaGreatCtS
import Derived.Test.YtlmcoollkmhanaaGreatCtO
import Derived.Test.YtlmcoollkmhanaaGreatCtG
namespace Go.Proofs.YtlmcoollkmhanaaGreat
open Go.RowKit

theorem wou_places (n : Nat) (wo : List Int) : wouL (toI (List.range n)) wo = plFrom wo n 0 := by
 unfold wouL plFrom toI
 rw [Nat.sub_zero, List.range_eq_range']
theorem places_all (n : Nat) : toI (List.range n) = plFrom [] n 0 := by
 unfold plFrom toI
 rw [Nat.sub_zero, List.range_eq_range', List.filter_eq_self.2 (fun x _ => by simp)]
theorem OwnLr.at_ {w : World} {base : Nat} {v : Value} {l : List (List Int)} (h : OwnLr w base v l) {i : Nat} (hi : i < l.length) : ∃ b off cap u, v = .slice (some ⟨b, off, none⟩) l.length cap ∧ b < w.heap.size ∧ w.cell? ⟨b, off + i, none⟩ = some u ∧ NewI w base u (lsAt l i) := by
 obtain ⟨xs, rfl, h2, h3⟩ := h
 have hi2 : i < xs.length := by simpa using hi
 obtain ⟨b, off, cap, rfl, -, -, h4, h5⟩ := (Owns.row encV_length rv0 (by omega) h2).at0 (by omega)
 have e : xs.getD i rv0 = xs[i] := by simp [List.getD_eq_getElem?_getD, List.getElem?_eq_getElem hi2]
 have h6 := h5 i hi2 0 _ rfl
 rw [e, Nat.mul_one, Nat.add_zero] at h6
 refine ⟨b, off, cap, xs[i].1, by rw [List.length_map], h4, h6, ?_⟩
 rw [lsAt_lt _ i (by simpa using hi2), List.getElem_map]
 exact h3 _ (List.getElem_mem hi2)
def OwnCr (w : World) (base b2 : Nat) (v : Value) (cs : List Cs) : Prop := ∃ xs : List Cv, xs.map (·.c) = cs ∧ Owns 68 encC 3 w base v xs ∧ ∀ x, x ∈ xs → NewI w b2 x.lv x.c.li ∧ NewI w b2 x.gv x.c.lo
theorem OwnCr.nil (w : World) (base b2 : Nat) : OwnCr w base b2 (.slice none 0 0) [] := ⟨[], rfl, Owns.nil w base, fun x hx => by simp at hx⟩
theorem OwnCr.lt {w : World} {base b2 : Nat} {v : Value} {l : List Cs} (h : OwnCr w base b2 v l) : ∀ q, v.ownBlock = some q → base ≤ q ∧ q < w.heap.size := by
 obtain ⟨xs, h1, h2, h3⟩ := h
 exact World.ownsRow.lt h2
theorem OwnCr.below {w w' : World} {base b2 B : Nat} {v : Value} {l : List Cs} (h : OwnCr w base b2 v l) (hB : w.heap.size ≤ B) (hb : Below B w w') : OwnCr w' base b2 v l := by
 obtain ⟨xs, h1, h2, h3⟩ := h
 exact ⟨xs, h1, h2.below hB hb, fun x hx => ⟨(h3 x hx).1.below hB hb, (h3 x hx).2.below hB hb⟩⟩
theorem NewI.rwt {w : World} {base : Nat} {v : Value} {l : List Int} (h : NewI w base v l) : RwT (fun _ => False) w v l := ⟨h.1, fun q hq => ⟨fun hh => hh, (h.2 q hq).2⟩⟩
theorem OwnCr.own {w : World} {base b2 : Nat} {v : Value} {l : List Cs} (h : OwnCr w base b2 v l) (hb : b2 ≤ base) : OwnCs w b2 (fun _ => False) v l := by
 obtain ⟨xs, h1, h2, h3⟩ := h
 exact ⟨xs, h1, h2.mono hb, fun q hq hh => hh, fun x hx => ⟨⟨(h3 x hx).1.rwt, (h3 x hx).2.rwt⟩, fun q hq => ((h3 x hx).1.2 q hq).1, fun q hq => ((h3 x hx).2.2 q hq).1⟩⟩
theorem ints_neC {w : World} {base n : Nat} {v : Value} {xs : List Value} (h : w.ownsRow base 68 3 v n xs) {q : Nat} {c fz} (hq : w.heap[q]? = some (.cells c 3 fz)) : v.ownBlock ≠ some q := by
 intro e
 rcases h.2 with ⟨hv, _⟩ | ⟨g, cap, cur, hv, hg, hc, r⟩
 ·rw [hv] at e; simp [Value.ownBlock] at e
 ·rw [hv] at e
  have e2 : g = q := by simpa [Value.ownBlock] using e
  subst e2
  rw [hc] at hq
  simp at hq
theorem OwnCr.push {w5 w6 : World} {base b2 : Nat} {ov v6 : Value} {xs : List Cv} {x : Cv} {tmp : Obj} (h2 : Owns 68 encC 3 w5 base ov xs) (h3 : ∀ y, y ∈ xs → NewI w5 b2 y.lv y.c.li ∧ NewI w5 b2 y.gv y.c.lo) (hx : NewI w5 b2 x.lv x.c.li ∧ NewI w5 b2 x.gv x.c.lo)
  (hg : (w5.alloc tmp).grownBy w6 ov.ownBlock) (hown : w6.ownsRow base 68 3 v6 (xs.length + 1) (xs.flatMap encC ++ encC x)) : OwnCr w6 base b2 v6 (xs.map (·.c) ++ [x.c]) := by
 have hz := hg.size
 simp only [World.size_alloc] at hz
 have mv : ∀ (v : Value) (l : List Int), NewI w5 b2 v l → NewI w6 b2 v l := fun v l hy => hy.same (by omega) fun q hq => by
  obtain ⟨c, fz, hc⟩ := (hy.2 q hq).2
  have hlt := hy.lt q hq
  exact (hg.block q (by simp; omega) (ints_neC h2 hc).symm).trans (Below.heap_alloc _ _ _ hlt)
 refine ⟨xs ++ [x], by simp, Owns.app hown, fun y hy => ?_⟩
 rw [List.mem_append, List.mem_singleton] at hy
 rcases hy with hy | rfl
 ·exact ⟨mv _ _ (h3 y hy).1, mv _ _ (h3 y hy).2⟩
 ·exact ⟨mv _ _ hx.1, mv _ _ hx.2⟩
theorem src_new (w : World) (vs : List Value) (T : TypeId) : SrcRow (w.alloc (.cells vs.toArray T)) (.slice (some ⟨w.heap.size, 0, none⟩) 1 1) 1 vs.length vs :=
 ⟨_, _, rfl, (Nat.one_mul _).symm, (fun e => by cases e), fun ad had j u hj => by cases had; exact cells_new w vs T j u hj⟩
theorem caL_snoc (s : Si) (use : List Int) (ev : Int) (ls : List (List Int)) (i : Nat) (h : i < ls.length) : caL s use ev (ls.take (i + 1)) = caL s use ev (ls.take i) ++ csOf s use ev (lsAt ls i) (chR (plFrom (lsAt ls i) use.length 0) s.lo.toNat) := by
 rw [lsAt_snoc ls i h]
 simp [caL]
theorem csOf_snoc (s : Si) (use : List Int) (ev : Int) (li : List Int) (L : List (List Int)) (k : Nat) (h : k < L.length) : csOf s use ev li (L.take (k + 1)) = csOf s use ev li (L.take k) ++ [⟨li, lsAt L k, lim s use ev li (lsAt L k)⟩] := by
 rw [lsAt_snoc L k h]
 simp [csOf]
theorem csOf_len (s : Si) (use : List Int) (ev : Int) (li : List Int) (L : List (List Int)) : (csOf s use ev li L).length = L.length := by simp [csOf]
theorem choice_at {s : Si} {use li lg : List Int} {f lo : Nat} (hf : s.f = f) (hlo : s.lo = lo) (h1 : li ∈ chR (plFrom [] use.length 0) f) (h2 : lg ∈ chR (plFrom li use.length 0) lo) : Choice s use li lg := by
 have a := (mem_choice [] use.length f li).1 h1
 have b := (mem_choice li use.length lo lg).1 h2
 exact ⟨by rw [hf]; exact a.1, by rw [hlo]; exact b.1, (cmB_iff _ _).2 fun x hx hy => b.2 x hy hx⟩
theorem lsAt_mem (l : List (List Int)) (i : Nat) (h : i < l.length) : lsAt l i ∈ l := by rw [lsAt_lt l i h]; exact List.getElem_mem h
set_option maxRecDepth 100000 in
set_option maxHeartbeats 4000000 in
theorem R31cases_any (r f lo tm : Int) (pv : Value) (ps : List Pr) (uv : Value) (use : List Int) (ev : Int) (w : World) (hp : PrRow w pv ps) (hu : IsRow w uv use) (hr : rgB ⟨r, f, lo, tm, ps⟩ use ev = true) (h8 : use.length ≤ 8) :
  Calls Tryz.prog 31 #[.agg #[.int .i64 r, .int .i64 f, .int .i64 lo, .int .i64 tm, pv], .agg #[uv, .int .i64 ev]] w fun e w' => ∃ cv, e = .returned cv ∧ OwnCs w' w.heap.size (fun _ => False) cv (csL ⟨r, f, lo, tm, ps⟩ use ev) ∧ Below w.heap.size w w' := by
 obtain ⟨i0, hi0, iz0, iz1, iz2⟩ := info_parts infoCs
 have HR := hide (fun (W : World) (hW : Below w.heap.size w W) => (And.intro (hp.below (Nat.le_refl _) hW) (hu.below (Nat.le_refl _) hW) : PrRow W pv ps ∧ IsRow W uv use))
 obtain ⟨ua, uc, rfl, -⟩ := id hu
 obtain ⟨pa, pc, rfl, -, -⟩ := hp.len
 have hspz := (spOk_iff _ _ _).1 (rg_spOk hr)
 simp only at hspz
 obtain ⟨F, rfl⟩ : ∃ F : Nat, f = F := ⟨f.toNat, by omega⟩
 obtain ⟨LO, rfl⟩ : ∃ L : Nat, lo = L := ⟨lo.toNat, by omega⟩
 have hF : F ≤ 16 ∧ LO ≤ 16 := by have := hspz; rw [wdL_length] at this; omega
 obtain ⟨W0, hW0⟩ : ∃ W : World, W = (w.alloc (.cells #[.int .i64 r, .int .i64 F, .int .i64 LO, .int .i64 tm, .slice pa ps.length pc] 24)).alloc (.cells #[.slice ua use.length uc, .int .i64 ev] 27) := ⟨_, rfl⟩
 have HS := hide (ss_boxes hW0)
 obtain ⟨L1, hL1⟩ : ∃ L, L = chR (plFrom [] use.length 0) F := ⟨_, rfl⟩
 have hcs : csL ⟨r, F, LO, tm, ps⟩ use ev = caL ⟨r, F, LO, tm, ps⟩ use ev L1 := by
  rw [hL1]; rfl
 have hL1n : L1.length ≤ 256 := by rw [hL1]; exact ch_256 _ _ h8
 have HL1 := hide hL1
 have Hcs := hide hcs
 have hpl : (toI (List.range use.length)).length ≤ 16 := by rw [toI_length, List.length_range]; omega
 clear hp hu hspz hL1 hcs
 go_enter Tryz.func31, Tryz.ntmps31
 go_upto_region 1 with fail
 rw [← hW0]
 clear hW0
 have B0 : Below (w.heap.size + 2) W0 W0 := Below.refl _ _
 obtain ⟨⟨y0, y1, y2, y3, y4⟩, ⟨x0, x1⟩, z0, b0⟩ := HS.out W0 B0
 go_wp2_with (first | (go_at_call 60; (with_reducible refine (R31places_any use.length _ (by omega)).mono ?_); rintro e w1 ⟨av, rfl, ho1, k1⟩; obtain ⟨aa, ac, hav, -, -⟩ := ho1.val; subst hav; have B1 : Below (w.heap.size + 2) W0 w1 := B0.trans (k1.mono z0); clear y0 y1 y2 y3 y4 x0 x1 z0 b0 k1 B0; obtain ⟨⟨y0, y1, y2, y3, y4⟩, ⟨x0, x1⟩, z0, b0⟩ := HS.out w1 B1) | (go_at_call 41; (with_reducible refine (R31Choose_any F (toI (List.range use.length)) _ _ ho1.row hpl hF.1).mono ?_); rintro e w2 ⟨lv, rfl, ho2, k2⟩; have hoa := ho1.below (Nat.le_refl _) k2; rw [places_all, ← HL1.out] at ho2; obtain ⟨lb, lc, hlv, -, -⟩ := ho2.row.len; subst hlv; have hz12 := k2.size; have z1 := z0; have B2 : Below (w.heap.size + 2) W0 w2 := B1.trans (k2.mono z0); clear y0 y1 y2 y3 y4 x0 x1 z0 b0 k2 B1; obtain ⟨⟨y0, y1, y2, y3, y4⟩, ⟨x0, x1⟩, z0, b0⟩ := HS.out w2 B2))
 have Hoa := hide hoa.row
 have Ho2 := hide ho2
 have HB2 := hide B2
 have Hb0 := hide b0
 have zz2 := z0
 rw [toI_length, List.length_range] at *
 clear hoa ho2 ho1 B2 y0 y1 y2 y3 y4 x0 x1 z0 b0
 go_loopw [5, 8] (fun s5 s8 wx => ∃ i : Nat, i ≤ L1.length ∧ s8 = .int .i64 i ∧ OwnCr wx w2.heap.size w.heap.size s5 (caL ⟨r, F, LO, tm, ps⟩ use ev (L1.take i)) ∧ Below w2.heap.size w2 wx) (fun _ s8 _ => L1.length - (intOf s8).toNat)
 case atStart => exact ⟨0, Nat.zero_le _, rfl, by simpa [caL] using OwnCr.nil _ _ _, Below.refl _ _⟩
 case round =>
  obtain ⟨i, hi, rfl, hown, hB⟩ := hrel
  obtain ⟨wo, hwo⟩ : ∃ W : World, W = wr := ⟨_, rfl⟩
  subst hwo
  by_cases hlt : i < L1.length
  ·obtain ⟨b1, o1, c1, u1, e1, g1, g2, hn1⟩ := Ho2.out.at_ hlt
   cases e1
   obtain ⟨X, hX⟩ : ∃ X, X = lsAt L1 i := ⟨_, rfl⟩
   rw [← hX] at hn1
   have hXm : X ∈ chR (plFrom [] use.length 0) F := by rw [hX, ← HL1.out]; exact lsAt_mem L1 i hlt
   have hb1lo : b1 < w2.heap.size := (Ho2.out.lt b1 rfl).2
   have hsn := caL_snoc ⟨r, F, LO, tm, ps⟩ use ev L1 i hlt
   rw [← hX] at hsn
   simp only [Int.toNat_natCast] at hsn
   obtain ⟨L2, hL2⟩ : ∃ L, L = chR (plFrom X use.length 0) LO := ⟨_, rfl⟩
   rw [← hL2] at hsn
   have hL2n : L2.length ≤ 256 := by rw [hL2]; exact ch_256 _ _ h8
   obtain ⟨ux, uxc, rfl, -, -, -⟩ := id hn1.1
   have hCn : (caL ⟨r, F, LO, tm, ps⟩ use ev (L1.take i)).length ≤ 65536 := by
    have h := caL_len ⟨r, F, LO, tm, ps⟩ use ev h8 (L1.take i)
    have h2 := List.length_take_le i L1
    omega
   obtain ⟨CS, hCS⟩ : ∃ C, C = caL ⟨r, F, LO, tm, ps⟩ use ev (L1.take i) := ⟨_, rfl⟩
   rw [← hCS] at hown hsn hCn
   have Hsn := hide hsn
   have Hn1 := hide hn1
   have Hxr := hide hn1.1
   have HXm := hide hXm
   have HL2 := hide hL2
   have HCS := hide hCS
   have Hown := hide hown
   have hzo := hB.size
   have BW0 := HB2.out.trans (hB.mono zz2)
   obtain ⟨⟨y0, y1, y2, y3, y4⟩, ⟨x0, x1⟩, z0, b0⟩ := HS.out wo BW0
   have HT0 := hide (fun (V : World) (hV : Below w2.heap.size w2 V) => (And.intro ((hV.cell (p := ⟨b1, o1 + i, none⟩) g1).trans g2) (HS.out V (HB2.out.trans (hV.mono zz2))).1.2.2.1 : V.cell? ⟨b1, o1 + i, none⟩ = some (.slice ux X.length uxc) ∧ V.cell? ⟨w.heap.size, 2, none⟩ = some (.int .i64 (LO : Int))))
   have g2o := (hB.cell (p := ⟨b1, o1 + i, none⟩) g1).trans g2
   have I1 : (0 : Int) ≤ (i : Int) := by omega
   have I2 : (i : Int) < (L1.length : Int) := by omega
   have zd : wo.drew.heap.size = wo.heap.size := rfl
   have HB := hide hB
   have HBW0 := hide BW0
   have hpx : (plFrom X use.length 0).length ≤ 16 := by have := plFrom_len X use.length 0; omega
   clear hsn hn1 hXm hL2 hX hCS hown hB BW0 y0 y1 y3 y4 x0 x1
   go_upto_region 7 with fail
   go_region_held3 (fun V => V.cell? ⟨b1, o1 + i, none⟩ = some (.slice ux X.length uxc) ∧ V.cell? ⟨w.heap.size, 2, none⟩ = some (.int .i64 (LO : Int))) (exact HT0.out _ (by ((with_reducible repeat' first | exact .refl _ _ | exact k4 | exact k3 | exact HB.out | refine .alloc ?_ ?_ _ | refine .setCell ?_ ?_ _ | refine .drew ?_ | refine below_drewN ?_ _ | refine Below.trans ?_ (k4.mono ?_) | refine Below.trans ?_ (k3.mono ?_) | refine Below.trans ?_ (HB.out.mono ?_)) <;> first | omega | simp <;> omega)))
    (first | (go_at_call 42; (with_reducible refine (R31Without_any _ (toI (List.range use.length)) _ X _ (Hoa.out.below (Nat.le_refl _) (by ((with_reducible repeat' first | exact .refl _ _ | exact HB.out | refine .alloc ?_ ?_ _ | refine .setCell ?_ ?_ _ | refine .drew ?_ | refine below_drewN ?_ _ | refine Below.trans ?_ (HB.out.mono ?_)) <;> first | omega | simp <;> omega))) (Hxr.out.below (Nat.le_refl _) (by ((with_reducible repeat' first | exact .refl _ _ | exact HB.out | refine .alloc ?_ ?_ _ | refine .setCell ?_ ?_ _ | refine .drew ?_ | refine below_drewN ?_ _ | refine Below.trans ?_ (HB.out.mono ?_)) <;> first | omega | simp <;> omega))) (by rw [toI_length, List.length_range]; omega)).mono ?_); rintro e w3 ⟨v3, rfl, ho3, k3⟩; rw [wou_places] at ho3; have z3 := k3.size) | (go_at_call 41; (with_reducible refine (R31Choose_any LO (plFrom X use.length 0) _ _ ho3.row hpx hF.2).mono ?_); rintro e w4 ⟨gv, rfl, ho4, k4⟩; rw [← HL2.out] at ho4; have z4 := k4.size))
   have B4 : Below wo.heap.size wo w4 := (by ((with_reducible repeat' first | exact .refl _ _ | exact k4 | exact k3 | refine .alloc ?_ ?_ _ | refine .setCell ?_ ?_ _ | refine .drew ?_ | refine below_drewN ?_ _ | refine Below.trans ?_ (k4.mono ?_) | refine Below.trans ?_ (k3.mono ?_)) <;> first | omega | simp <;> omega))
   have z4o : wo.heap.size ≤ w4.heap.size := B4.size
   have z3o : wo.heap.size ≤ w3.heap.size := z3
   obtain ⟨gb, gc, hgv, -, -⟩ := ho4.row.len
   subst hgv
   have HO4 := hide (ho4.mono (b2 := wo.heap.size) z3o)
   have hownW := Hown.out.below (Nat.le_refl _) B4
   have hlt0 := Hown.out.lt
   have HB4 := hide (HB.out.trans (B4.mono hzo))
   clear k3 k4 ho3 ho4 B4
   go_wp2_with fail
   go_loopw [5, 10] (fun s5 s10 wx => ∃ k : Nat, k ≤ L2.length ∧ s10 = .int .i64 k ∧ OwnCr wx w2.heap.size w.heap.size s5 (CS ++ csOf ⟨r, F, LO, tm, ps⟩ use ev X (L2.take k)) ∧ Below w2.heap.size w2 wx ∧ w4.heap.size ≤ wx.heap.size ∧ Hid ((∀ q, wo.heap.size ≤ q → q < w4.heap.size → wx.heap[q]? = w4.heap[q]?) ∧ ∀ q, s5.ownBlock = some q → q < wo.heap.size ∨ w4.heap.size ≤ q)) (fun _ s10 _ => L2.length - (intOf s10).toNat)
   case atStart => exact ⟨0, Nat.zero_le _, rfl, by simpa [csOf] using hownW, HB4.out, Nat.le_refl _, hide ⟨fun _ _ _ => rfl, fun q hq => .inl (hlt0 q hq).2⟩⟩
   case round =>
    obtain ⟨k, hk, rfl, hown, hB, hz, HK⟩ := hrel
    by_cases hkl : k < L2.length
    ·have hrow : OwnLr wr wo.heap.size (.slice gb L2.length gc) L2 := HO4.out.same hz HK.out.1
     obtain ⟨b2, o2, c2, u2, e2, g3, g4, hn2⟩ := hrow.at_ hkl
     cases e2
     have hb2 := HO4.out.lt b2 rfl
     obtain ⟨Y, hY⟩ : ∃ Y, Y = lsAt L2 k := ⟨_, rfl⟩
     have hsn := csOf_snoc ⟨r, F, LO, tm, ps⟩ use ev X L2 k hkl
     rw [← hY] at hn2 hsn
     have hYm : Y ∈ chR (plFrom X use.length 0) LO := by rw [hY, ← HL2.out]; exact lsAt_mem L2 k hkl
     have hC : Choice ⟨r, F, LO, tm, ps⟩ use X Y := choice_at (f := F) (lo := LO) rfl rfl HXm.out hYm
     obtain ⟨D, hD⟩ : ∃ D, D = lim ⟨r, F, LO, tm, ps⟩ use ev X Y := ⟨_, rfl⟩
     rw [← hD] at hsn
     have Hsn2 := hide hsn
     obtain ⟨uy, uyc, rfl, -, -, -⟩ := id hn2.1
     have hbw : Below w.heap.size w wr := Hb0.out.trans (hB.mono (by omega))
     have HLim := hide (fun (V : World) (hV : Below wr.heap.size wr V) => by
      have h := R31limit_any r F LO tm (.slice pa ps.length pc) ps (.slice ua use.length uc) use ev (.slice ux X.length uxc) X (.slice uy Y.length uyc) Y V (HR.out V (hbw.trans (hV.mono hbw.size))).1 (HR.out V (hbw.trans (hV.mono hbw.size))).2 (Hxr.out.below (Nat.le_refl _) (hB.trans (hV.mono hB.size))) (hn2.1.below (Nat.le_refl _) hV) hr hC
      rw [← hD] at h
      exact h)
     have HTk := hide (fun (V : World) (hV : Below w2.heap.size w2 V) (hc : V.cell? ⟨b2, o2 + k, none⟩ = some (.slice uy Y.length uyc)) => by
      have h := HS.out V (HB2.out.trans (hV.mono zz2))
      exact (And.intro h.1.1 (And.intro h.1.2.1 (And.intro h.1.2.2.1 (And.intro h.1.2.2.2.1 (And.intro h.1.2.2.2.2 (And.intro h.2.1.1 (And.intro h.2.1.2 (And.intro (HT0.out V hV).1 hc))))))) : V.cell? ⟨w.heap.size, 0, none⟩ = some (.int .i64 r) ∧ V.cell? ⟨w.heap.size, 1, none⟩ = some (.int .i64 (F : Int)) ∧ V.cell? ⟨w.heap.size, 2, none⟩ = some (.int .i64 (LO : Int)) ∧ V.cell? ⟨w.heap.size, 3, none⟩ = some (.int .i64 tm) ∧ V.cell? ⟨w.heap.size, 4, none⟩ = some (.slice pa ps.length pc) ∧ V.cell? ⟨w.heap.size + 1, 0, none⟩ = some (.slice ua use.length uc) ∧ V.cell? ⟨w.heap.size + 1, 1, none⟩ = some (.int .i64 ev) ∧ V.cell? ⟨b1, o1 + i, none⟩ = some (.slice ux X.length uxc) ∧ V.cell? ⟨b2, o2 + k, none⟩ = some (.slice uy Y.length uyc)))
     obtain ⟨y0, y1, y2, y3, y4, x0, x1, q1, q2⟩ := HTk.out wr hB g4
     obtain ⟨xs, hx1, hx2, hx3⟩ := hown
     have hxn : xs.length ≤ 131072 := by
      have h := congrArg List.length hx1
      rw [List.length_map, List.length_append, csOf_len, List.length_take] at h
      omega
     obtain ⟨oa, ocap, hov, -, -⟩ := hx2.val
     subst hov
     have Hlow := hide (World.ownsRow.lt hx2)
     have Hx1 := hide hx1
     have Hx2 := hide hx2
     have Hx3 := hide hx3
     have Hn2 := hide hn2
     have hzr2 := hB.size
     have I3 : (0 : Int) ≤ (k : Int) := by omega
     have I4 : (k : Int) < (L2.length : Int) := by omega
     have zd2 : wr.drew.heap.size = wr.heap.size := rfl
     clear hsn hY hYm hC hD hx1 hx2 hx3 hrow hn2 hbw hownW
     have hK9 := hide (fun (V : World) (hV : Below wr.heap.size wr V) => HTk.out V (hB.trans (hV.mono hzr2)) ((hV.cell (p := ⟨b2, o2 + k, none⟩) g3).trans g4))
     go_upto_region 11 with fail
     go_region_held3 (fun V => V.cell? ⟨w.heap.size, 0, none⟩ = some (.int .i64 r) ∧ V.cell? ⟨w.heap.size, 1, none⟩ = some (.int .i64 (F : Int)) ∧ V.cell? ⟨w.heap.size, 2, none⟩ = some (.int .i64 (LO : Int)) ∧ V.cell? ⟨w.heap.size, 3, none⟩ = some (.int .i64 tm) ∧ V.cell? ⟨w.heap.size, 4, none⟩ = some (.slice pa ps.length pc) ∧ V.cell? ⟨w.heap.size + 1, 0, none⟩ = some (.slice ua use.length uc) ∧ V.cell? ⟨w.heap.size + 1, 1, none⟩ = some (.int .i64 ev) ∧ V.cell? ⟨b1, o1 + i, none⟩ = some (.slice ux X.length uxc) ∧ V.cell? ⟨b2, o2 + k, none⟩ = some (.slice uy Y.length uyc)) (exact hK9.out _ (by ((with_reducible repeat' first | exact .refl _ _ | refine .alloc ?_ ?_ _ | refine .setCell ?_ ?_ _ | refine .drew ?_ | refine below_drewN ?_ _) <;> first | omega | simp <;> omega)))
      (first | (go_at_call 40; (with_reducible refine (HLim.out _ (by ((with_reducible repeat' first | exact .refl _ _ | exact hB | refine .alloc ?_ ?_ _ | refine .setCell ?_ ?_ _ | refine .drew ?_ | refine below_drewN ?_ _ | refine Below.trans ?_ (hB.mono ?_)) <;> first | omega | simp <;> omega))).mono ?_); rintro e w5 ⟨rfl, k5⟩; have z5 := k5.size; have B5 : Below wr.heap.size wr w5 := (by ((with_reducible repeat' first | exact .refl _ _ | exact k5 | refine .alloc ?_ ?_ _ | refine .setCell ?_ ?_ _ | refine .drew ?_ | refine below_drewN ?_ _ | refine Below.trans ?_ (k5.mono ?_)) <;> first | omega | simp <;> omega)); have B52 : Below w2.heap.size w2 w5 := hB.trans (B5.mono hzr2); have z52 := B52.size; have g35 : b2 < w5.heap.size := Nat.lt_of_lt_of_le g3 z5; have g45 := (B5.cell (p := ⟨b2, o2 + k, none⟩) g3).trans g4; have hK9 := hide (fun (V : World) (hV : Below w5.heap.size w5 V) => HTk.out V (B52.trans (hV.mono z52)) ((hV.cell (p := ⟨b2, o2 + k, none⟩) g35).trans g45))) | ((refine step_append_src rfl (.tmp 40) (.tmp 61) 28 rfl w2.heap.size 68 i0 (.agg #[.slice none 0 0, .slice none 0 0, .int .i64 0]) 3 56 Tryz.underlying28 hi0 iz0 iz1 iz2 rfl (by decide) _ xs.length (xs.flatMap encC) (by simp [Act.eval]) (World.ownsRow.alloc (ownsRow_below Hx2.out B5) _) (.slice (some ⟨w5.heap.size, 0, none⟩) 1 1) 1 (encC ⟨.slice ux X.length uxc, .slice uy Y.length uyc, ⟨X, Y, D⟩⟩) (by simp [Act.eval]) (src_new w5 (encC ⟨.slice ux X.length uxc, .slice uy Y.length uyc, ⟨X, Y, D⟩⟩) _) (by simp [encC, Value.oneCell']) (by unfold maxLen; omega) (by omega) (by simp; omega) ?_; intro v6 w6 hown6 hg6 hb6; have z6 := hg6.size; simp only [World.size_alloc] at z6; have hB6 : Below w2.heap.size w2 w6 := Below.grown (by ((with_reducible repeat' first | exact .refl _ _ | exact B5 | exact hB | refine .alloc ?_ ?_ _ | refine .setCell ?_ ?_ _ | refine .drew ?_ | refine below_drewN ?_ _ | refine Below.trans ?_ (B5.mono ?_) | refine Below.trans ?_ (hB.mono ?_)) <;> first | omega | simp <;> omega)) hg6 (by simp; omega) (fun r h => (Hlow.out r h).1); have hne6 : ∀ q, wo.heap.size ≤ q → q < w4.heap.size → w6.heap[q]? = wr.heap[q]? := (fun q h1 h2 => ((hg6.block q (by simp; omega) (fun e => by rcases HK.out.2 q e.symm with h | h <;> omega)).trans (Below.heap_alloc _ _ _ (by omega))).trans (B5.block q (by omega))); have z62 := hB6.size; have g36 : b2 < w6.heap.size := (by omega); have g46 := (World.cell?_of_block (a := ⟨b2, o2 + k, none⟩) (hne6 b2 hb2.1 hb2.2)).trans g4; have hK9 := hide (fun (V : World) (hV : Below w6.heap.size w6 V) => HTk.out V (hB6.trans (hV.mono z62)) ((hV.cell (p := ⟨b2, o2 + k, none⟩) g36).trans g46)))))
     have hx5 : ∀ y, y ∈ xs → NewI w5 w.heap.size y.lv y.c.li ∧ NewI w5 w.heap.size y.gv y.c.lo := fun y hy => ⟨(Hx3.out y hy).1.below (Nat.le_refl _) B5, (Hx3.out y hy).2.below (Nat.le_refl _) B5⟩
     have hnX : NewI w5 w.heap.size (.slice ux X.length uxc) X := (Hn1.out.below (Nat.le_refl _) B52).mono (by omega)
     have hnY : NewI w5 w.heap.size (.slice uy Y.length uyc) Y := (Hn2.out.below (Nat.le_refl _) B5).mono (by omega)
     have hpush := OwnCr.push (x := (⟨.slice ux X.length uxc, .slice uy Y.length uyc, ⟨X, Y, D⟩⟩ : Cv)) (Hx2.out.below (Nat.le_refl _) B5) hx5 ⟨hnX, hnY⟩ hg6 hown6
     have hrel : CS ++ csOf ⟨r, F, LO, tm, ps⟩ use ev X (L2.take (k + 1)) = xs.map (·.c) ++ [⟨X, Y, D⟩] := by rw [Hx1.out, Hsn2.out, List.append_assoc]
     have hkp : ∀ q, wo.heap.size ≤ q → q < w4.heap.size → w6.heap[q]? = w4.heap[q]? := fun q h1 h2 => (hne6 q h1 h2).trans (HK.out.1 q h1 h2)
     have hbl : ∀ q, v6.ownBlock = some q → q < wo.heap.size ∨ w4.heap.size ≤ q := fun q hq => by
      rcases hb6 with h | h
      ·exact HK.out.2 q (by rw [← h]; exact hq)
      ·rw [hq] at h
       have h3 : q = (w5.alloc (.cells #[.slice ux X.length uxc, .slice uy Y.length uyc, .int .i64 D] 68)).heap.size := by simpa using h
       simp only [World.size_alloc] at h3
       omega
     have HREL := hide hrel
     have HPU := hide hpush
     have HKB := hide (And.intro hkp hbl)
     have z6w : w4.heap.size ≤ w6.heap.size := by omega
     clear hx5 hnX hnY hpush hrel hkp hbl
     go_wp2_with fail
     go_roundw
     case rel => exact ⟨k + 1, by omega, by go_num, by rw [HREL.out]; exact HPU.out, hB6, z6w, hide HKB.out⟩
     case measure => simp [intOf]; omega
    ·obtain rfl : k = L2.length := by omega
     rw [List.take_length, ← Hsn.out] at hown
     go_wp2_with fail
     go_roundw
     case rel => exact ⟨i + 1, by omega, by go_num, hown, hB⟩
     case measure => simp [intOf]; omega
  ·obtain rfl : i = L1.length := by omega
   rw [List.take_length, ← Hcs.out] at hown
   go_wp2_with fail
   go_ret
   exact ⟨_, rfl, hown.own (by omega), Hb0.out.trans (hB.mono (by omega))⟩
end Go.Proofs.YtlmcoollkmhanaaGreat
