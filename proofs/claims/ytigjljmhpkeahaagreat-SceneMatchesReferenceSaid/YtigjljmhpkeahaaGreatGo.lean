
/- Parts PlU PlV PlW of the proof, joined. -/
import Derived.Test.YtigjljmhpkeahaaGreatGn
import Derived.Test.YtigjljmhpkeahaaGreatGg
import Derived.Deep.RegionLaw
import Derived.Test.YtigjljmhpkeahaaGreatGm
import Derived.Deep.DeepCutAuto
/- The reference of package plan: find, the plain search. -/
namespace Go.Proofs.YtigjljmhpkeahaaGreat
open Go.RowKit

theorem made_cells2 {W V : World} {o0 o1 : Value} {t : TypeId} (b : Below (W.alloc (.cells #[o0, o1] t)).heap.size (W.alloc (.cells #[o0, o1] t)) V) :
  V.cell? ⟨W.heap.size, 0, none⟩ = some o0 ∧ V.cell? ⟨W.heap.size, 1, none⟩ = some o1 ∧ V.frozen? ⟨W.heap.size, 0, none⟩ = false ∧ V.frozen? ⟨W.heap.size, 1, none⟩ = false ∧ W.heap.size < V.heap.size := by
 have h := bk b W.heap.size (by simp)
 have z := b.size
 simp only [World.size_alloc] at z
 refine ⟨(h.1 _).trans (by simp), (h.1 _).trans (by simp), (h.2 _).trans (by simp [go_sem]), (h.2 _).trans (by simp [go_sem]), by omega⟩
theorem made_cells2D {W V : World} {o0 o1 : Value} {t : TypeId} (b : Below (W.alloc (.cells #[o0, o1] t)).drew.heap.size (W.alloc (.cells #[o0, o1] t)).drew V) :
  V.cell? ⟨W.heap.size, 0, none⟩ = some o0 ∧ V.cell? ⟨W.heap.size, 1, none⟩ = some o1 ∧ V.frozen? ⟨W.heap.size, 0, none⟩ = false ∧ V.frozen? ⟨W.heap.size, 1, none⟩ = false ∧ W.heap.size < V.heap.size :=
 made_cells2 (W := W) (V := V) (o0 := o0) (o1 := o1) (t := t) ⟨b.os, b.tape, b.output, b.size, b.block⟩
theorem put2 {W0 V : World} {n g : Nat} {uv o0 o1 : Value} {ev : Int} {l : List Int} (c0 : V.cell? ⟨g, 0, none⟩ = some o0) (c1 : V.cell? ⟨g, 1, none⟩ = some o1) (hg : n ≤ g) (hgV : g < V.heap.size) (hrow : IsRow V uv l) (hown : 0 < l.length → ∀ q, uv.ownBlock = some q → q ≠ g) (hB : Below n W0 V) :
  BxS ((V.setCell ⟨g, 0, none⟩ uv).setCell ⟨g, 1, none⟩ (.int .i64 ev)) g uv l ev ∧ Below n W0 ((V.setCell ⟨g, 0, none⟩ uv).setCell ⟨g, 1, none⟩ (.int .i64 ev)) :=
 ⟨⟨set_other _ (set_same _ c0) (by intro h; simp at h), set_same _ (set_other _ c1 (by intro h; simp at h)), isrow_set (isrow_set hrow _ _ hown) _ _ hown, by simpa [World.setCell] using hgV⟩, (hB.setCell (p := ⟨g, 0, none⟩) hg _).setCell (p := ⟨g, 1, none⟩) hg _⟩
theorem step_call2 {P : Program} {ops : Array Oper} {o : Oper} {a : Act} {w : World} {K : Act → World → Prop} {Q : Exit → Act → World → Prop} {E : Prop}
  (hg : o.guard = none) (x y : Operand) (f : FuncId) (ts : Array TypeId) (hop : o.op = Op.call { callee := Callee.value (Operand.func f), args := #[x, y], argTypes := ts })
  (v u : Value) (hx : a.eval x = v) (hy : a.eval y = u) (eg : ∀ args w, (callFunc f args).run P w = .ok (.enter f args) w) {R : Ending → World → Prop} (hC : Calls P f #[v, u] w R) (hK : ∀ e w', R e w' → ∃ q, e = .returned q ∧ K (a.put o.dst q) w') :
  if Region.wanted o (yielded ops a.tmps) = true then Oper.wp P o a w K Q else E := by
 have hw : Region.wanted o (yielded ops a.tmps) = true := by simp [Region.wanted, hg]
 rw [if_pos hw]
 have hr : (execOp a.eval o).run P w = .ok (.enter f #[v, u]) w := by
  simp [execOp, hop, resolve, invoke, go_sem, eg]
  subst hx hy
  exact ⟨by cases x <;> first | rfl | simp [Act.eval], by cases y <;> first | rfl | simp [Act.eval]⟩
 unfold Oper.wp
 rw [hr, Oper.upon_enter]
 refine hC.mono ?_
 intro e w' h
 obtain ⟨q, rfl, hk⟩ := hK e w' h
 exact hk
def FdI (s : Si) (pv : Value) (w W : World) (acc : Option Of) : Prop :=
 ∃ uv, (W.cell? ⟨w.heap.size, 0, none⟩ = some (.int .i64 s.r) ∧ W.cell? ⟨w.heap.size, 1, none⟩ = some (.int .i64 s.f) ∧ W.cell? ⟨w.heap.size, 2, none⟩ = some (.int .i64 s.lo) ∧ W.cell? ⟨w.heap.size, 3, none⟩ = some (.int .i64 s.tm) ∧ W.cell? ⟨w.heap.size, 4, none⟩ = some pv) ∧
  (W.cell? ⟨w.heap.size + 1, 0, none⟩ = some (.slice none 0 0) ∧ W.cell? ⟨w.heap.size + 1, 1, none⟩ = some (.int .i64 0) ∧ W.frozen? ⟨w.heap.size + 1, 0, none⟩ = false ∧ W.frozen? ⟨w.heap.size + 1, 1, none⟩ = false) ∧
  (W.cell? ⟨w.heap.size + 1 + 1, 0, none⟩ = some uv ∧ W.cell? ⟨w.heap.size + 1 + 1, 1, none⟩ = some (.int .i64 (accO acc).ev) ∧ W.frozen? ⟨w.heap.size + 1 + 1, 0, none⟩ = false ∧ W.frozen? ⟨w.heap.size + 1 + 1, 1, none⟩ = false) ∧
  IsRow W uv (accO acc).use ∧ (∀ q, uv.ownBlock = some q → w.heap.size + 3 ≤ q) ∧ (acc.isSome = true → rgB s (accO acc).use (accO acc).ev = true) ∧ Below w.heap.size w W ∧ w.heap.size + 3 ≤ W.heap.size
theorem FdI.below {s : Si} {pv : Value} {w W V : World} {acc : Option Of} (h : FdI s pv w W acc) (hb : Below W.heap.size W V) : FdI s pv w V acc := by
 obtain ⟨uv, ⟨a0, a1, a2, a3, a4⟩, ⟨b0, b1, b2, b3⟩, ⟨c0, c1, c2, c3⟩, d, e, f, g, z⟩ := h
 have h0 := (bk hb w.heap.size (by omega)).1
 have h1 := bk hb (w.heap.size + 1) (by omega)
 have h2 := bk hb (w.heap.size + 1 + 1) (by omega)
 exact ⟨uv, ⟨(h0 _).trans a0, (h0 _).trans a1, (h0 _).trans a2, (h0 _).trans a3, (h0 _).trans a4⟩, ⟨(h1.1 _).trans b0, (h1.1 _).trans b1, (h1.2 _).trans b2, (h1.2 _).trans b3⟩, ⟨(h2.1 _).trans c0, (h2.1 _).trans c1, (h2.2 _).trans c2, (h2.2 _).trans c3⟩, d.below (Nat.le_refl _) hb, e, f, g.trans (hb.mono g.size), by have := hb.size; omega⟩
theorem FdI.put {s : Si} {pv : Value} {w W : World} {acc : Option Of} {x : Of} {uv : Value} (h : FdI s pv w W acc) (hr : IsRow W uv x.use) (ho : ∀ q, uv.ownBlock = some q → w.heap.size + 3 ≤ q) (hg : rgB s x.use x.ev = true) :
  FdI s pv w ((W.setCell ⟨w.heap.size + 1 + 1, 0, none⟩ uv).setCell ⟨w.heap.size + 1 + 1, 1, none⟩ (.int .i64 x.ev)) (some x) := by
 obtain ⟨u0, ⟨a0, a1, a2, a3, a4⟩, ⟨b0, b1, b2, b3⟩, ⟨c0, c1, c2, c3⟩, d, e, f, g, z⟩ := h
 have hn : 0 < x.use.length → ∀ q, uv.ownBlock = some q → q ≠ w.heap.size + 1 + 1 := fun _ q hq => by have := ho q hq; omega
 have so : ∀ (b o : Nat) (v : Value), b ≠ w.heap.size + 1 + 1 → W.cell? ⟨b, o, none⟩ = some v → ((W.setCell ⟨w.heap.size + 1 + 1, 0, none⟩ uv).setCell ⟨w.heap.size + 1 + 1, 1, none⟩ (.int .i64 x.ev)).cell? ⟨b, o, none⟩ = some v := fun b o v hb hv => set_other _ (set_other _ hv (by intro h; cases h; exact hb rfl)) (by intro h; cases h; exact hb rfl)
 refine ⟨uv, ⟨so _ _ _ (by omega) a0, so _ _ _ (by omega) a1, so _ _ _ (by omega) a2, so _ _ _ (by omega) a3, so _ _ _ (by omega) a4⟩, ⟨so _ _ _ (by omega) b0, so _ _ _ (by omega) b1, ?_, ?_⟩, ⟨set_other _ (set_same _ c0) (by intro h; simp at h), set_same _ (set_other _ c1 (by intro h; simp at h)), ?_, ?_⟩, isrow_set (isrow_set hr _ _ hn) _ _ hn, ho, fun _ => hg, ?_, ?_⟩
 ·simp only [World.frozen?_setCell]; exact b2
 ·simp only [World.frozen?_setCell]; exact b3
 ·simp only [World.frozen?_setCell]; exact c2
 ·simp only [World.frozen?_setCell]; exact c3
 ·exact (g.setCell (p := ⟨w.heap.size + 1 + 1, 0, none⟩) (by show w.heap.size ≤ w.heap.size + 1 + 1; omega) _).setCell (p := ⟨w.heap.size + 1 + 1, 1, none⟩) (by show w.heap.size ≤ w.heap.size + 1 + 1; omega) _
 ·simpa [World.setCell] using z
set_option maxRecDepth 100000 in
set_option maxHeartbeats 4000000 in
theorem Rfind_any (nr : Bool) (r f lo tm : Int) (pv : Value) (ps : List Pr) (v : Value) (pl : List Int) (most : Int) (w : World) (hp : PrRow w pv ps) (hv : IsRow w v pl) (hl : ps.length ≤ 10) (hpl : pl.length ≤ 10) :
  Calls Tryz.prog 113 #[.agg #[.int .i64 r, .int .i64 f, .int .i64 lo, .int .i64 tm, pv], v, .int .i64 most, .bool nr] w fun e w' => ∃ uv, e = .returned (.tuple #[.agg #[uv, .int .i64 (accO (bstO nr ⟨r, f, lo, tm, ps⟩ pl most)).ev], .int .i64 (accO (bstO nr ⟨r, f, lo, tm, ps⟩ pl most)).wd, .bool (bstO nr ⟨r, f, lo, tm, ps⟩ pl most).isSome]) ∧
   IsRow w' uv (accO (bstO nr ⟨r, f, lo, tm, ps⟩ pl most)).use ∧ (∀ q, uv.ownBlock = some q → w.heap.size ≤ q) ∧ Below w.heap.size w w' := by
 have hR : ∀ W : World, Below w.heap.size w W → PrRow W pv ps ∧ IsRow W v pl := fun W hW => ⟨hp.below (Nat.le_refl _) hW, hv.below (Nat.le_refl _) hW⟩
 have HR := hide hR
 obtain ⟨pa, pc, rfl, -, -⟩ := hp.len
 obtain ⟨va, vc, rfl, -, -, -⟩ := id hv
 obtain ⟨res, hres⟩ : ∃ res, res = bstO nr ⟨r, f, lo, tm, ps⟩ pl most := ⟨_, rfl⟩
 rw [← hres]
 have Hres := hide hres
 obtain ⟨W0, hW0⟩ : ∃ W : World, W = ((w.alloc (.cells #[.int .i64 r, .int .i64 f, .int .i64 lo, .int .i64 tm, .slice pa ps.length pc] 24)).alloc (.cells #[.slice none 0 0, .int .i64 0] 27)).alloc (.cells #[.slice none 0 0, .int .i64 0] 27) := ⟨_, rfl⟩
 have hF : FdI ⟨r, f, lo, tm, ps⟩ (.slice pa ps.length pc) w W0 none := by
  rw [hW0]
  refine ⟨.slice none 0 0, ⟨?_, ?_, ?_, ?_, ?_⟩, ⟨?_, ?_, ?_, ?_⟩, ⟨?_, ?_, ?_, ?_⟩, IsRow.nil _, fun q hq => by simp [Value.ownBlock] at hq, fun h => by simp at h, (by ((with_reducible repeat' first | exact .refl _ _ | refine .alloc ?_ ?_ _ | refine .setCell ?_ ?_ _ | refine .drew ?_ | refine below_drewN ?_ _) <;> first | omega | simp <;> omega)), by simp⟩ <;> simp [go_sem, accO, of0]
 have h2l : 2 ^ ps.length ≤ 1024 := by
  have := Nat.pow_le_pow_right (n := 2) (by omega) hl
  omega
 obtain ⟨N, hN⟩ : ∃ N, N = 2 ^ ps.length := ⟨_, rfl⟩
 have hsh : (1 : Int) * 2 ^ ps.length = N := by rw [hN]; simp
 rw [← hN] at h2l
 have HN := hide hN
 clear hR hres hN hp hv
 go_enter Tryz.func113, Tryz.ntmps113
 go_upto_region 2 with fail
 rw [← hW0]
 clear hW0
 obtain ⟨uv0, ⟨y0, y1, y2, y3, y4⟩, -, -, -, -, -, k0, z0⟩ := id hF
 have HF := hide hF
 clear hF
 go_wp2_with fail
 clear y0 y1 y2 y3 y4 k0 z0
 go_loopw [12, 13, 14] (fun s12 s13 s14 wr => ∃ (m : Nat) (acc : Option Of), m ≤ N ∧ s14 = .int .i64 m ∧ Hid (acc = bstL nr ps most (ofTo ⟨r, f, lo, tm, ps⟩ pl m)) ∧ s12 = .int .i64 (accO acc).wd ∧ s13 = .bool acc.isSome ∧ FdI ⟨r, f, lo, tm, ps⟩ (.slice pa ps.length pc) w wr acc) (fun _ _ s14 _ => N - (intOf s14).toNat)
 case atStart => exact ⟨0, none, Nat.zero_le _, rfl, hide rfl, rfl, rfl, HF.out⟩
 case round =>
  obtain ⟨m, acc, hm, rfl, Hacc, rfl, rfl, hF⟩ := hrel
  obtain ⟨uv1, ⟨y0, y1, y2, y3, y4⟩, ⟨r0, r1, r2, r3⟩, ⟨b0, b1, b2, b3⟩, hrow, hown, hrg, k0, z0⟩ := id hF
  have yq : w.heap.size < wr.heap.size := by omega
  by_cases hlt : m < N
  ·have Hrow := hide hrow
   have Hown := hide hown
   have Hrg := hide hrg
   have HF1 := hide hF
   clear hrow hown hrg hF r0 r1 r2 r3 b0 b1 b2 b3
   go_wp2_with fail
   clear y0 y1 y2 y3 y4 k0 z0 yq
   go_loopw [12, 13, 15] (fun s12 s13 s15 wx => ∃ (j : Nat) (ac2 : Option Of), j ≤ pl.length ∧ s15 = .int .i64 j ∧ Hid (ac2 = bstL nr ps most (ofTo ⟨r, f, lo, tm, ps⟩ pl m ++ perTo ⟨r, f, lo, tm, ps⟩ (mkL m ps.length) pl j)) ∧ s12 = .int .i64 (accO ac2).wd ∧ s13 = .bool ac2.isSome ∧ FdI ⟨r, f, lo, tm, ps⟩ (.slice pa ps.length pc) w wx ac2) (fun _ _ s15 _ => pl.length - (intOf s15).toNat)
   case atStart => exact ⟨0, acc, Nat.zero_le _, rfl, hide (by rw [Hacc.out]; simp [perTo]), rfl, rfl, HF1.out⟩
   case round =>
    obtain ⟨j, ac2, hj, rfl, Hac2, rfl, rfl, hF2⟩ := hrel
    by_cases hlj : j < pl.length
    ·obtain ⟨uv2, ⟨y0, y1, y2, y3, y4⟩, -, ⟨c0, c1, c2, c3⟩, hrow, hown, hrg, k0, z0⟩ := id hF2
     have yq : w.heap.size < wr.heap.size := by omega
     obtain ⟨b, off, hbv, hbl, hbc⟩ : ∃ b off, va = some ⟨b, off, none⟩ ∧ b < wr.heap.size ∧ wr.cell? ⟨b, off + j, none⟩ = some (.int .i64 (iAt pl j)) := by
      obtain ⟨va', vc', hve, -, -, h3⟩ := (HR.out _ k0).2
      cases hve
      exact h3 j hlj
     subst hbv
     have hpe : perTo ⟨r, f, lo, tm, ps⟩ (mkL m ps.length) pl (j + 1) = if rgB ⟨r, f, lo, tm, ps⟩ (mkL m ps.length) (iAt pl j) = true then perTo ⟨r, f, lo, tm, ps⟩ (mkL m ps.length) pl j ++ [⟨mkL m ps.length, iAt pl j, wdt ⟨r, f, lo, tm, ps⟩ (mkL m ps.length) (iAt pl j)⟩] else perTo ⟨r, f, lo, tm, ps⟩ (mkL m ps.length) pl j := rfl
     have Hpe := hide hpe
     have HF2 := hide hF2
     have Hrow2 := hide hrow
     have I1 : (0 : Int) ≤ (j : Int) := by omega
     have I2 : (j : Int) < (pl.length : Int) := by omega
     have HU := hide (fun V => Use_any m ps.length (by omega) (by omega) V)
     clear hpe hF2 hrow hown hrg c0 c1 c2 c3 k0
     generalize iAt pl j = ev at *
     go_upto_region 10 with fail
     go_cut [16] (fun s16 wx => ∃ g uv, s16 = .pointer (some ⟨g, 0, none⟩) ∧ BxS wx g uv (mkL m ps.length) ev ∧ (∀ q, uv.ownBlock = some q → w.heap.size + 3 ≤ q) ∧ Below wr.heap.size wr wx)
     case first =>
      go_region_law (refine step_call2 rfl (.tmp 33) (.tmp 36) 160 #[3, 3] rfl (.int .i64 (m : Int)) (.int .i64 (ps.length : Int)) (by simp [Act.eval, Act.put]) (by simp [Act.eval, Act.put]) (enters_of Tryz.func160 (by kernel_rfl) rfl) (HU.out _) ?_; rintro e w3 ⟨uv, rfl, hown, b3⟩; have b3' : Below wr.heap.size wr w3 := (by ((with_reducible repeat' first | exact .refl _ _ | exact b3 | refine .alloc ?_ ?_ _ | refine .setCell ?_ ?_ _ | refine .drew ?_ | refine below_drewN ?_ _ | refine Below.trans ?_ (b3.mono ?_)) <;> first | omega | simp <;> omega)); have hlow := World.ownsRow.lt hown; (try simp only [World.size_alloc, size_drew] at hlow); obtain ⟨ua, uc, huv, -, -⟩ := hown.val; subst huv; have Hrow := hide hown.row; have Hlow := hide hlow; have hbc3 := (b3'.cell (p := ⟨b, off + j, none⟩) hbl).trans hbc; have hbl3 := Nat.lt_of_lt_of_le hbl b3'.size; have B3h := hide b3'; clear hown hlow b3'; (first | (have tt := made_cells2 b3; obtain ⟨t0, t1, t2, t3, t6⟩ := tt) | (have tt := made_cells2D b3; obtain ⟨t0, t1, t2, t3, t6⟩ := tt) | skip); refine ⟨_, rfl, ?_⟩)
      all_goals go_wp2
      all_goals go_meet
      all_goals refine ⟨_, .slice ua (mkL m ps.length).length uc, rfl, ?_⟩
      all_goals first
       | (obtain ⟨o1, o2⟩ := put2 (W0 := wr) (n := wr.heap.size) (ev := ev) t0 t1 (by omega) t6 Hrow.out (fun h0 q hq => by have := Hlow.out q hq; omega) B3h.out; exact ⟨o1, fun q hq => by have := Hlow.out q hq; omega, o2⟩)
       | exact ⟨BxS.made Hrow.out, fun q hq => by have := Hlow.out q hq; omega, B3h.out.alloc B3h.out.size _⟩
     case rest =>
      obtain ⟨g, uv, rfl, kc, hown2, hbw⟩ := hcut
      have hFc := HF2.out.below hbw
      clear y0 y1 y2 y3 y4 z0 yq hbl hbc HU Hrow2 HF2
      obtain ⟨uv3, ⟨y0, y1, y2, y3, y4⟩, -, ⟨c0, c1, c2, c3⟩, hrow, hown, hrg, k0, z0⟩ := id hFc
      obtain ⟨ua, uc, huv, -⟩ := id kc.2.2.1
      subst huv
      obtain ⟨u3, c3', huv3, -⟩ := id hrow
      subst huv3
      have HFc := hide hFc
      have Hown2 := hide hown2
      have hwE : wdEr ⟨r, f, lo, tm, ps⟩ (mkL m ps.length) ev = if rgB ⟨r, f, lo, tm, ps⟩ (mkL m ps.length) ev = true then 0 else 1 := by unfold wdEr; cases rgB ⟨r, f, lo, tm, ps⟩ (mkL m ps.length) ev <;> rfl
      have hq := R29Width_any r f lo tm _ ps _ (mkL m ps.length) ev wc (HR.out _ k0).1 kc.2.2.1 (by have := mkL_len m ps.length; omega)
      obtain ⟨m0, m1, -, m3⟩ := id kc
      obtain ⟨wd, hwd⟩ : ∃ x, x = wdt ⟨r, f, lo, tm, ps⟩ (mkL m ps.length) ev := ⟨_, rfl⟩
      rw [← hwd] at hq Hpe
      have Hwd := hide hwd
      have hsn : ∀ x : Of, bstL nr ps most ((ofTo ⟨r, f, lo, tm, ps⟩ pl m ++ perTo ⟨r, f, lo, tm, ps⟩ (mkL m ps.length) pl j) ++ [x]) = bstS nr ps most ac2 x := fun x => by rw [Hac2.out]; exact bstL_snoc nr ps most _ x
      have Hsn := hide hsn
      clear hsn hwd hown2 hFc hown
      cases hR : rgB ⟨r, f, lo, tm, ps⟩ (mkL m ps.length) ev with
      | false =>
       rw [hR, if_neg (by simp)] at hwE
       rw [hwE] at hq
       have Hq := hide hq
       have HRf := hide hR
       clear hq hwE hR hrow hrg
       go_wp2_with fail
       refine Hq.out.mono ?_
       rintro e w4 ⟨rfl, b4⟩
       go_wp2_with fail
       go_roundw
       case rel => exact ⟨j + 1, ac2, by omega, by go_num, by rw [Hpe.out, if_neg (by rw [HRf.out]; simp)]; exact Hac2, rfl, rfl, HFc.out.below b4⟩
       case measure => simp [intOf]; omega
      | true =>
       rw [hR, if_pos rfl] at hwE
       rw [hwE] at hq
       have Hq := hide hq
       have HRt := hide hR
       have hpn : bstL nr ps most (ofTo ⟨r, f, lo, tm, ps⟩ pl m ++ perTo ⟨r, f, lo, tm, ps⟩ (mkL m ps.length) pl (j + 1)) = bstS nr ps most ac2 ⟨mkL m ps.length, ev, wd⟩ := by rw [Hpe.out, if_pos hR, ← List.append_assoc]; exact Hsn.out _
       have Hpn := hide hpn
       have Hrg := hide hrg
       have Hrow3 := hide hrow
       clear hq hwE hR hpn hrow hrg
       by_cases hle : most < wd
       ·have dl : decide (most < wd) = true := decide_eq_true hle
        have Hst := hide (show bstS nr ps most ac2 ⟨mkL m ps.length, ev, wd⟩ = ac2 by cases ac2 <;> simp [bstS] <;> omega)
        clear hle
        go_wp2_with fail
        refine Hq.out.mono ?_
        rintro e w4 ⟨rfl, b4⟩
        go_wp2_with fail
        go_roundw
        case rel => exact ⟨j + 1, ac2, by omega, by go_num, hide (by rw [Hpn.out, Hst.out]), rfl, rfl, HFc.out.below b4⟩
        case measure => simp [intOf]; omega
       ·have dl : decide (most < wd) = false := decide_eq_false hle
        have Hle := hide hle
        clear hle
        cases hac : ac2 with
        | none =>
         subst hac
         simp only [Option.isSome_none]
         go_wp2_with fail
         refine Hq.out.mono ?_
         rintro e w4 ⟨rfl, b4⟩
         have hF4 := HFc.out.below b4
         obtain ⟨uv4, -, -, ⟨d0, d1, d2, d3⟩, -, -, -, -, -⟩ := id hF4
         obtain ⟨n0, n1, n2, n3⟩ := kc.below (Nat.le_refl _) b4
         clear m0 m1 m3 y0 y1 y2 y3 y4 c0 c1 c2 c3
         go_wp2_with fail
         go_roundw
         case rel => exact ⟨j + 1, some ⟨mkL m ps.length, ev, wd⟩, by omega, by go_num, hide (by rw [Hpn.out]; simp only [bstS]; rw [if_pos (by have := Hle.out; omega)]), rfl, rfl, FdI.put (x := ⟨mkL m ps.length, ev, wd⟩) hF4 n2 Hown2.out HRt.out⟩
         case measure => simp [intOf]; omega
        | some b0 =>
         subst hac
         simp only [Option.isSome_some, accO, Option.getD_some] at *
         have oA := CsOk.of HRt.out
         have oB := CsOk.of (Hrg.out trivial)
         have hbt := fun V (h : Below wc.heap.size wc V) => Rbetter_any nr r f lo tm _ ps _ ⟨mkL m ps.length, ev, wd⟩ _ b0 V (HR.out _ (k0.trans (h.mono k0.size))).1 (kc.2.2.1.below (Nat.le_refl _) h) (Hrow3.out.below (Nat.le_refl _) h) oA oB
         obtain ⟨R, hRe⟩ : ∃ R, R = btr nr ps ⟨mkL m ps.length, ev, wd⟩ b0 := ⟨_, rfl⟩
         rw [← hRe] at hbt
         have HRe := hide hRe
         have Hbt := hide hbt
         have K0 := hide k0
         clear hbt hRe oA oB k0
         cases R with
         | true =>
          go_wp2_with fail
          refine Hq.out.mono ?_
          rintro e w4 ⟨rfl, b4⟩
          have hF4 := HFc.out.below b4
          obtain ⟨n0, n1, n2, n3⟩ := kc.below (Nat.le_refl _) b4
          have kx := bk b4 (w.heap.size + 1 + 1) (by omega)
          have ky := bk b4 w.heap.size (by omega)
          have y0' := (ky.1 _).trans y0
          have y1' := (ky.1 _).trans y1
          have y2' := (ky.1 _).trans y2
          have y3' := (ky.1 _).trans y3
          have y4' := (ky.1 _).trans y4
          have c0' := (kx.1 _).trans c0
          have c1' := (kx.1 _).trans c1
          clear m0 m1 m3 y0 y1 y2 y3 y4 c0 c1 c2 c3 kx ky
          go_wp2_with fail
          refine (Hbt.out w4 b4).mono ?_
          rintro e w5 ⟨rfl, b5⟩
          have hF5 := hF4.below b5
          obtain ⟨uv5, -, -, ⟨d0, d1, d2, d3⟩, -, -, -, -, -⟩ := id hF5
          have n2' := n2.below (Nat.le_refl _) b5
          have kg := bk b5 g n3
          have n0' := (kg.1 _).trans n0
          have n1' := (kg.1 _).trans n1
          clear n0 n1 n3 y0' y1' y2' y3' y4' c0' c1' kg
          go_wp2_with fail
          go_roundw
          case rel => exact ⟨j + 1, some ⟨mkL m ps.length, ev, wd⟩, by omega, by go_num, hide (by rw [Hpn.out]; simp only [bstS]; rw [if_pos ⟨by have := Hle.out; omega, HRe.out.symm⟩]), rfl, rfl, FdI.put (x := ⟨mkL m ps.length, ev, wd⟩) hF5 n2' Hown2.out HRt.out⟩
          case measure => simp [intOf]; omega
         | false =>
          go_wp2_with fail
          refine Hq.out.mono ?_
          rintro e w4 ⟨rfl, b4⟩
          have hF4 := HFc.out.below b4
          obtain ⟨n0, n1, n2, n3⟩ := kc.below (Nat.le_refl _) b4
          have kx := bk b4 (w.heap.size + 1 + 1) (by omega)
          have ky := bk b4 w.heap.size (by omega)
          have y0' := (ky.1 _).trans y0
          have y1' := (ky.1 _).trans y1
          have y2' := (ky.1 _).trans y2
          have y3' := (ky.1 _).trans y3
          have y4' := (ky.1 _).trans y4
          have c0' := (kx.1 _).trans c0
          have c1' := (kx.1 _).trans c1
          clear m0 m1 m3 y0 y1 y2 y3 y4 c0 c1 c2 c3 kx ky
          go_wp2_with fail
          refine (Hbt.out w4 b4).mono ?_
          rintro e w5 ⟨rfl, b5⟩
          go_wp2_with fail
          go_roundw
          case rel => exact ⟨j + 1, some b0, by omega, by go_num, hide (by rw [Hpn.out]; simp only [bstS]; rw [if_neg (by rw [← HRe.out]; simp)]), rfl, rfl, hF4.below b5⟩
          case measure => simp [intOf]; omega
    ·obtain rfl : j = pl.length := by omega
     have hof : ofTo ⟨r, f, lo, tm, ps⟩ pl (m + 1) = ofTo ⟨r, f, lo, tm, ps⟩ pl m ++ perTo ⟨r, f, lo, tm, ps⟩ (mkL m ps.length) pl pl.length := rfl
     have Hof := hide hof
     clear hof
     go_wp2_with fail
     go_roundw
     case rel => exact ⟨m + 1, ac2, by omega, by go_num, by rw [Hof.out]; exact Hac2, rfl, rfl, hF2⟩
     case measure => simp [intOf]; omega
  ·obtain rfl : m = N := by omega
   have hra : res = acc := by rw [Hacc.out, Hres.out]; unfold bstO ofL; rw [← HN.out]
   subst hra
   obtain ⟨ua, uc, huv, -⟩ := id hrow
   subst huv
   have Hrow := hide hrow
   have Hown := hide hown
   clear hrow hown hrg
   go_wp2_with fail
   have Hn : ∀ q, (Value.slice ua (accO res).use.length uc).ownBlock = some q → q ≠ w.heap.size + 1 := fun q hq e => by have := Hown.out q hq; omega
   have d0 : ((wr.setCell ⟨w.heap.size + 1, 0, none⟩ (.slice ua (accO res).use.length uc)).setCell ⟨w.heap.size + 1, 1, none⟩ (.int .i64 (accO res).ev)).cell? ⟨w.heap.size + 1, 0, none⟩ = some (.slice ua (accO res).use.length uc) := set_other _ (set_same _ r0) (by intro h; simp at h)
   have d1 : ((wr.setCell ⟨w.heap.size + 1, 0, none⟩ (.slice ua (accO res).use.length uc)).setCell ⟨w.heap.size + 1, 1, none⟩ (.int .i64 (accO res).ev)).cell? ⟨w.heap.size + 1, 1, none⟩ = some (.int .i64 (accO res).ev) := set_same _ (set_other _ r1 (by intro h; simp at h))
   exact bodyPost_ret (v := .tuple #[.agg #[.slice ua (accO res).use.length uc, .int .i64 (accO res).ev], .int .i64 (accO res).wd, .bool res.isSome]) (by simp [results, Tryz.results113, go_sem, d0, d1]) rfl ⟨_, rfl, isrow_set (isrow_set Hrow.out _ _ fun _ => Hn) _ _ fun _ => Hn, fun q hq => by have := Hown.out q hq; omega, (by ((with_reducible repeat' first | exact .refl _ _ | exact k0 | refine .alloc ?_ ?_ _ | refine .setCell ?_ ?_ _ | refine .drew ?_ | refine below_drewN ?_ _ | refine Below.trans ?_ (k0.mono ?_)) <;> first | omega | simp <;> omega))⟩
end Go.Proofs.YtigjljmhpkeahaaGreat
/- Plain laws for the reference of package plan: a bound that is great enough, and when there is a schedule. -/
namespace Go.Proofs.YtigjljmhpkeahaaGreat
open Go.RowKit

theorem bstL_most {nr : Bool} {ps : List Pr} {x y : Int} : ∀ (l : List Of) (acc : Option Of), (∀ o, o ∈ l → o.wd ≤ x ∧ o.wd ≤ y) → l.foldl (bstS nr ps x) acc = l.foldl (bstS nr ps y) acc
 | [], _, _ => rfl
 | o :: l, acc, h => by
  have h1 := h o (by simp)
  have h2 : bstS nr ps x acc o = bstS nr ps y acc o := by cases acc <;> simp [bstS, h1.1, h1.2]
  simp only [List.foldl_cons]
  rw [h2]
  exact bstL_most l _ fun o' ho => h o' (by simp [ho])
theorem bstO_most (nr : Bool) (s : Si) (pl : List Int) {x y : Int} (hx : 1004000000000010 ≤ x) (hy : 1004000000000010 ≤ y) : bstO nr s pl x = bstO nr s pl y := by
 refine bstL_most _ _ fun o ho => ?_
 obtain ⟨-, h2, h3, -⟩ := ofL_v ho
 have := wdt_bd h2
 rw [← h3] at this
 omega
theorem mkL_all (n : Nat) : ∀ k, k ≤ n → (mkL (2 ^ n - 1) k).length = k ∧ ∀ j, j < k → iAt (mkL (2 ^ n - 1) k) j = j
 | 0, _ => ⟨rfl, fun j h => by omega⟩
 | k + 1, hk => by
  obtain ⟨h1, h2⟩ := mkL_all n k (by omega)
  have hb : (2 ^ n - 1) / 2 ^ k % 2 = 1 := by
   have := Nat.testBit_two_pow_sub_one n k
   rw [Nat.testBit_eq_decide_div_mod_eq, decide_eq_decide] at this
   exact this.2 (by omega)
  rw [mkL, if_pos hb]
  refine ⟨by simp [h1], fun j hj => ?_⟩
  rcases Nat.lt_or_ge j k with h | h
  ·rw [iAt_left _ _ _ (by rw [h1]; exact h)]
   exact h2 j h
  ·obtain rfl : j = k := by omega
   have := iAt_len (mkL (2 ^ n - 1) j) (j : Int)
   rw [h1] at this
   exact this
theorem nw_few {s : Si} {pl : List Int} (h : ckE s pl = 0) {x : Int} (hx : 1004000000000010 ≤ x) : (bstO true s pl x).isSome = decide (2 * s.f + s.lo < s.ps.length) := by
 obtain ⟨hs, hp, -, hp1, -⟩ := ckE_zero h
 have hpp := hp
 unfold prdB at hpp
 rw [Bool.and_eq_true] at hpp
 have h0 := (perB_iff s.tm pl _).1 hpp.1 0 (by omega)
 rw [if_pos rfl] at h0
 cases hB : bstO true s pl x with
 | some b =>
  have h1 := (ofL_mem s pl b).1 (bst_some hB).1
  obtain ⟨m, j, -, -, hr, -⟩ := h1
  have h2 := ((rgB_iff _ _ _).1 hr).2.2.2.2
  have h3 := mkL_len m s.ps.length
  exact (decide_eq_true (by omega)).symm
 | none =>
  refine (decide_eq_false fun hlt => ?_).symm
  obtain ⟨h1, h2⟩ := mkL_all s.ps.length s.ps.length (Nat.le_refl _)
  have hr : rgB s (mkL (2 ^ s.ps.length - 1) s.ps.length) (iAt pl 0) = true := by
   refine (rgB_iff _ _ _).2 ⟨hs, by omega, fun j hj => ?_, ?_, by rw [h1]; exact hlt⟩
   ·rw [h1] at hj
    rw [h2 j hj]
    omega
   ·refine (risTo_iff _ _).2 fun j hj => ?_
    rw [h1] at hj
    rw [h2 j hj]
    by_cases hj0 : j = 0
    ·rw [if_pos hj0]; omega
    ·rw [if_neg hj0, h2 (j - 1) (by omega)]; omega
  have hm := ofL_of (s := s) (pl := pl) (2 ^ s.ps.length - 1) (j := 0) (by omega) hr
  have h3 := bst_no hB _ hm
  have h4 := wdt_bd hr
  simp only at h3
  omega
theorem ckE_cases (s : Si) (pl : List Int) : (siB s = true ∧ prdB s.tm pl = true ∧ s.ps.length ≤ 10 ∧ ckE s pl = 0) ∨ (siB s = true ∧ prdB s.tm pl = true ∧ ¬ s.ps.length ≤ 10 ∧ ckE s pl = 2) ∨ (siB s = true ∧ prdB s.tm pl = false ∧ ckE s pl = 1) ∨ (siB s = false ∧ ckE s pl = 1) := by
 unfold ckE
 cases h1 : siB s <;> cases h2 : prdB s.tm pl <;> by_cases h3 : s.ps.length ≤ 10 <;> simp [h3]
end Go.Proofs.YtigjljmhpkeahaaGreat
/- The reference of package plan: Best, Narrow, Few. -/
namespace Go.Proofs.YtigjljmhpkeahaaGreat
open Go.RowKit

set_option maxRecDepth 100000 in
set_option maxHeartbeats 2000000 in
theorem RN_any (r f lo tm : Int) (pv : Value) (ps : List Pr) (v : Value) (pl : List Int) (w : World) (hp : PrRow w pv ps) (hv : IsRow w v pl) :
  Calls Tryz.prog 62 #[.agg #[.int .i64 r, .int .i64 f, .int .i64 lo, .int .i64 tm, pv], v] w fun e w' => ∃ uv, e = .returned (.tuple #[.agg #[uv, .int .i64 (accO (nwO ⟨r, f, lo, tm, ps⟩ pl)).ev], .int .i64 (accO (nwO ⟨r, f, lo, tm, ps⟩ pl)).wd, .int .i64 (nwE ⟨r, f, lo, tm, ps⟩ pl)]) ∧
   IsRow w' uv (accO (nwO ⟨r, f, lo, tm, ps⟩ pl)).use ∧ (∀ q, uv.ownBlock = some q → w.heap.size ≤ q) ∧ Below w.heap.size w w' := by
 have hR : ∀ W : World, Below w.heap.size w W → PrRow W pv ps ∧ IsRow W v pl := fun W hW => ⟨hp.below (Nat.le_refl _) hW, hv.below (Nat.le_refl _) hW⟩
 have HR := hide hR
 obtain ⟨pa, pc, rfl, pq1, pq2⟩ := hp.len
 obtain ⟨va, vc, rfl, vq1, vq2, -⟩ := id hv
 obtain ⟨W0, hW0⟩ : ∃ W : World, W = (w.alloc (.cells #[.int .i64 r, .int .i64 f, .int .i64 lo, .int .i64 tm, .slice pa ps.length pc] 24)).alloc (.cells #[.slice none 0 0, .int .i64 0] 27) := ⟨_, rfl⟩
 have zW : W0.heap.size = w.heap.size + 2 := by rw [hW0]; simp
 have bW : Below w.heap.size w W0 := by rw [hW0]; ((with_reducible repeat' first | exact .refl _ _ | refine .alloc ?_ ?_ _ | refine .setCell ?_ ?_ _ | refine .drew ?_ | refine below_drewN ?_ _) <;> first | omega | simp <;> omega)
 have hS : ∀ W : World, Below (w.heap.size + 2) W0 W → W.cell? ⟨w.heap.size, 0, none⟩ = some (.int .i64 r) ∧ W.cell? ⟨w.heap.size, 1, none⟩ = some (.int .i64 f) ∧ W.cell? ⟨w.heap.size, 2, none⟩ = some (.int .i64 lo) ∧ W.cell? ⟨w.heap.size, 3, none⟩ = some (.int .i64 tm) ∧ W.cell? ⟨w.heap.size, 4, none⟩ = some (.slice pa ps.length pc) ∧
   W.cell? ⟨w.heap.size + 1, 0, none⟩ = some (.slice none 0 0) ∧ W.cell? ⟨w.heap.size + 1, 1, none⟩ = some (.int .i64 0) ∧ W.frozen? ⟨w.heap.size + 1, 0, none⟩ = false ∧ W.frozen? ⟨w.heap.size + 1, 1, none⟩ = false ∧ Below w.heap.size w W ∧ w.heap.size + 2 ≤ W.heap.size := by
  intro W hW
  obtain ⟨y0, y1, y2, y3, y4, v0, v1, f0, f1⟩ : W0.cell? ⟨w.heap.size, 0, none⟩ = some (.int .i64 r) ∧ W0.cell? ⟨w.heap.size, 1, none⟩ = some (.int .i64 f) ∧ W0.cell? ⟨w.heap.size, 2, none⟩ = some (.int .i64 lo) ∧ W0.cell? ⟨w.heap.size, 3, none⟩ = some (.int .i64 tm) ∧ W0.cell? ⟨w.heap.size, 4, none⟩ = some (.slice pa ps.length pc) ∧ W0.cell? ⟨w.heap.size + 1, 0, none⟩ = some (.slice none 0 0) ∧ W0.cell? ⟨w.heap.size + 1, 1, none⟩ = some (.int .i64 0) ∧ W0.frozen? ⟨w.heap.size + 1, 0, none⟩ = false ∧ W0.frozen? ⟨w.heap.size + 1, 1, none⟩ = false := by
   rw [hW0]; refine ⟨?_, ?_, ?_, ?_, ?_, ?_, ?_, ?_, ?_⟩ <;> simp [go_sem]
  have h0 := (bk hW w.heap.size (by omega)).1
  have h1 := (bk hW (w.heap.size + 1) (by omega)).1
  have h2 := (bk hW (w.heap.size + 1) (by omega)).2
  exact ⟨(h0 _).trans y0, (h0 _).trans y1, (h0 _).trans y2, (h0 _).trans y3, (h0 _).trans y4, (h1 _).trans v0, (h1 _).trans v1, (h2 _).trans f0, (h2 _).trans f1, bW.trans (hW.mono (by omega)), by have := hW.size; omega⟩
 have HS := hide hS
 clear hR hS hp hv
 have hno : ∀ E, ckE ⟨r, f, lo, tm, ps⟩ pl = E → E ≠ 0 → nwO ⟨r, f, lo, tm, ps⟩ pl = none ∧ nwE ⟨r, f, lo, tm, ps⟩ pl = E := fun E h1 h2 => ⟨by unfold nwO; rw [h1, if_neg h2], by unfold nwE; rw [h1, if_neg h2]⟩
 rcases ckE_cases ⟨r, f, lo, tm, ps⟩ pl with ⟨hs, hq, hl, hE⟩ | ⟨hs, hq, hl, hE⟩ | ⟨hs, hq, hE⟩ | ⟨hs, hE⟩
 ·obtain ⟨-, -, -, -, hpl⟩ := ckE_zero hE
  have hfew := nw_few hE (x := 9223372036854775807) (by omega)
  have hm : bstO true ⟨r, f, lo, tm, ps⟩ pl 9223372036854775807 = bstO true ⟨r, f, lo, tm, ps⟩ pl 4611686018427387904 := bstO_most _ _ _ (by omega) (by omega)
  have hO : nwO ⟨r, f, lo, tm, ps⟩ pl = bstO true ⟨r, f, lo, tm, ps⟩ pl 4611686018427387904 := by unfold nwO; rw [hE, if_pos rfl, hm]
  rw [hm] at hfew
  have hEE : nwE ⟨r, f, lo, tm, ps⟩ pl = if (bstO true ⟨r, f, lo, tm, ps⟩ pl 4611686018427387904).isSome = true then 0 else 20 := by unfold nwE; rw [hE, if_pos rfl, hO]
  rw [hO, hEE]
  have hsi := (siN_iff _).1 ((siB_iff _).1 hs).1
  simp only at hl hq hfew hsi
  have dl : decide ((10 : Int) < (ps.length : Int)) = false := decide_eq_false (by omega)
  have w1' : IntKind.i64.wrap (2 * f) = 2 * f := IntWalk.i64_in _ (by omega)
  have w2' : IntKind.i64.wrap (2 * f + lo) = 2 * f + lo := IntWalk.i64_in _ (by omega)
  have hF := fun W h1 h2 => Rfind_any true r f lo tm (.slice pa ps.length pc) ps (.slice va pl.length vc) pl 4611686018427387904 W h1 h2 hl hpl
  generalize bstO true ⟨r, f, lo, tm, ps⟩ pl 4611686018427387904 = res at *
  have HF := hide hF
  by_cases hf : 2 * f + lo < ps.length
  ·have dm : decide ((ps.length : Int) ≤ 2 * f + lo) = false := decide_eq_false (by omega)
   rw [decide_eq_true hf] at hfew
   rw [if_pos hfew]
   clear hno hE hF hl hpl hm hO hEE hsi hf hfew
   go_enter Tryz.func62, Tryz.ntmps62
   go_upto_region 1 with fail
   rw [← hW0]
   clear hW0
   have B0 : Below (w.heap.size + 2) W0 W0 := Below.refl _ _
   obtain ⟨y0, y1, y2, y3, y4, v0, v1, f0, f1, b0, z0⟩ := HS.out W0 B0
   go_wp2_with (first | (go_at_call 89; (with_reducible refine (R29Valid_any r f lo tm _ ps _ (HR.out _ b0).1).mono ?_); rintro e w1 ⟨rfl, c1⟩; rw [hs]; have B1 : Below (w.heap.size + 2) W0 w1 := B0.trans (c1.mono z0); clear y0 y1 y2 y3 y4 v0 v1 f0 f1 z0; obtain ⟨y0, y1, y2, y3, y4, v0, v1, f0, f1, b1, z0⟩ := HS.out w1 B1) | (go_at_call 112; (with_reducible refine (RPeriods_any r f lo tm _ _ pl _ (HR.out _ b1).2).mono ?_); rintro e w2 ⟨rfl, c2⟩; rw [hq]; have B2 : Below (w.heap.size + 2) W0 w2 := B1.trans (c2.mono z0); clear y0 y1 y2 y3 y4 v0 v1 f0 f1 z0; obtain ⟨y0, y1, y2, y3, y4, v0, v1, f0, f1, b2, z0⟩ := HS.out w2 B2))
   refine (HF.out _ (HR.out _ b2).1 (HR.out _ b2).2).mono ?_
   rintro e w3 ⟨uv, rfl, hrow, hown, c3⟩
   obtain ⟨ua, uc, huv, -⟩ := id hrow
   subst huv
   have B3 : Below (w.heap.size + 2) W0 w3 := B2.trans (c3.mono z0)
   have Hrow := hide hrow
   have Hown := hide (fun q hq => Nat.le_trans z0 (hown q hq))
   clear hrow hown
   clear y0 y1 y2 y3 y4 v0 v1 f0 f1 z0
   obtain ⟨y0, y1, y2, y3, y4, v0, v1, f0, f1, b3, z0⟩ := HS.out w3 B3
   have zb : w.heap.size + 1 < w3.heap.size := by omega
   go_wp2_with fail
   have Hn : ∀ q, (Value.slice ua (accO res).use.length uc).ownBlock = some q → q ≠ w.heap.size + 1 := fun q hq e => by have := Hown.out q hq; omega
   have dz : w.heap.size + 1 < ((w3.setCell ⟨w.heap.size + 1, 0, none⟩ (.slice ua (accO res).use.length uc)).setCell ⟨w.heap.size + 1, 1, none⟩ (.int .i64 (accO res).ev)).heap.size := by simpa [World.setCell] using zb
   have d0 : (((w3.setCell ⟨w.heap.size + 1, 0, none⟩ (.slice ua (accO res).use.length uc)).setCell ⟨w.heap.size + 1, 1, none⟩ (.int .i64 (accO res).ev)).alloc (.cells #[.slice ua (accO res).use.length uc, .int .i64 (accO res).ev] 27)).cell? ⟨w.heap.size + 1, 0, none⟩ = some (.slice ua (accO res).use.length uc) := (World.cell?_alloc_lt _ _ _ dz).trans (set_other _ (set_same _ v0) (by intro h; simp at h))
   have d1 : (((w3.setCell ⟨w.heap.size + 1, 0, none⟩ (.slice ua (accO res).use.length uc)).setCell ⟨w.heap.size + 1, 1, none⟩ (.int .i64 (accO res).ev)).alloc (.cells #[.slice ua (accO res).use.length uc, .int .i64 (accO res).ev] 27)).cell? ⟨w.heap.size + 1, 1, none⟩ = some (.int .i64 (accO res).ev) := (World.cell?_alloc_lt _ _ _ dz).trans (set_same _ (set_other _ v1 (by intro h; simp at h)))
   exact bodyPost_ret (v := .tuple #[.agg #[.slice ua (accO res).use.length uc, .int .i64 (accO res).ev], .int .i64 (accO res).wd, .int .i64 0]) (by simp [results, Tryz.results62, go_sem, d0, d1]) rfl ⟨_, rfl, IsRow.below (w := (w3.setCell ⟨w.heap.size + 1, 0, none⟩ (.slice ua (accO res).use.length uc)).setCell ⟨w.heap.size + 1, 1, none⟩ (.int .i64 (accO res).ev)) (isrow_set (isrow_set Hrow.out _ _ fun _ => Hn) _ _ fun _ => Hn) (Nat.le_refl _) (by ((with_reducible repeat' first | exact .refl _ _ | refine .alloc ?_ ?_ _ | refine .setCell ?_ ?_ _ | refine .drew ?_ | refine below_drewN ?_ _) <;> first | omega | simp <;> omega)), fun q hq => by have := Hown.out q hq; omega, (by ((with_reducible repeat' first | exact .refl _ _ | exact b3 | refine .alloc ?_ ?_ _ | refine .setCell ?_ ?_ _ | refine .drew ?_ | refine below_drewN ?_ _ | refine Below.trans ?_ (b3.mono ?_)) <;> first | omega | simp <;> omega))⟩
  ·have dm : decide ((ps.length : Int) ≤ 2 * f + lo) = true := decide_eq_true (by omega)
   rw [decide_eq_false hf] at hfew
   rw [if_neg (by rw [hfew]; simp)]
   have hacc : accO res = of0 := by cases res with | none => rfl | some x => simp at hfew
   rw [hacc]
   clear hno hE hF hl hpl hm hO hEE hsi hf hfew HF hacc
   go_enter Tryz.func62, Tryz.ntmps62
   go_upto_region 1 with fail
   rw [← hW0]
   clear hW0
   have B0 : Below (w.heap.size + 2) W0 W0 := Below.refl _ _
   obtain ⟨y0, y1, y2, y3, y4, v0, v1, f0, f1, b0, z0⟩ := HS.out W0 B0
   go_wp2_with (first | (go_at_call 89; (with_reducible refine (R29Valid_any r f lo tm _ ps _ (HR.out _ b0).1).mono ?_); rintro e w1 ⟨rfl, c1⟩; rw [hs]; have B1 : Below (w.heap.size + 2) W0 w1 := B0.trans (c1.mono z0); clear y0 y1 y2 y3 y4 v0 v1 f0 f1 z0; obtain ⟨y0, y1, y2, y3, y4, v0, v1, f0, f1, b1, z0⟩ := HS.out w1 B1) | (go_at_call 112; (with_reducible refine (RPeriods_any r f lo tm _ _ pl _ (HR.out _ b1).2).mono ?_); rintro e w2 ⟨rfl, c2⟩; rw [hq]; have B2 : Below (w.heap.size + 2) W0 w2 := B1.trans (c2.mono z0); clear y0 y1 y2 y3 y4 v0 v1 f0 f1 z0; obtain ⟨y0, y1, y2, y3, y4, v0, v1, f0, f1, b2, z0⟩ := HS.out w2 B2))
   have d0 : ((w2.setCell ⟨w.heap.size + 1, 0, none⟩ (.slice none 0 0)).setCell ⟨w.heap.size + 1, 1, none⟩ (.int .i64 0)).cell? ⟨w.heap.size + 1, 0, none⟩ = some (.slice none 0 0) := set_other _ (set_same _ v0) (by intro h; simp at h)
   have d1 : ((w2.setCell ⟨w.heap.size + 1, 0, none⟩ (.slice none 0 0)).setCell ⟨w.heap.size + 1, 1, none⟩ (.int .i64 0)).cell? ⟨w.heap.size + 1, 1, none⟩ = some (.int .i64 0) := set_same _ (set_other _ v1 (by intro h; simp at h))
   exact bodyPost_ret (v := .tuple #[.agg #[.slice none 0 0, .int .i64 0], .int .i64 0, .int .i64 20]) (by simp [results, Tryz.results62, go_sem, d0, d1]) rfl ⟨_, rfl, IsRow.nil _, fun q hq => by simp [Value.ownBlock] at hq, (by ((with_reducible repeat' first | exact .refl _ _ | exact b2 | refine .alloc ?_ ?_ _ | refine .setCell ?_ ?_ _ | refine .drew ?_ | refine below_drewN ?_ _ | refine Below.trans ?_ (b2.mono ?_)) <;> first | omega | simp <;> omega))⟩
 ·obtain ⟨hO, hEE⟩ := hno _ hE (by decide)
  rw [hO, hEE]
  simp only at hl hq
  have dl : decide ((10 : Int) < (ps.length : Int)) = true := decide_eq_true (by omega)
  clear hno hE hl hO hEE
  go_enter Tryz.func62, Tryz.ntmps62
  go_upto_region 1 with fail
  rw [← hW0]
  clear hW0
  have B0 : Below (w.heap.size + 2) W0 W0 := Below.refl _ _
  obtain ⟨y0, y1, y2, y3, y4, v0, v1, f0, f1, b0, z0⟩ := HS.out W0 B0
  go_wp2_with (first | (go_at_call 89; (with_reducible refine (R29Valid_any r f lo tm _ ps _ (HR.out _ b0).1).mono ?_); rintro e w1 ⟨rfl, c1⟩; rw [hs]; have B1 : Below (w.heap.size + 2) W0 w1 := B0.trans (c1.mono z0); clear y0 y1 y2 y3 y4 v0 v1 f0 f1 z0; obtain ⟨y0, y1, y2, y3, y4, v0, v1, f0, f1, b1, z0⟩ := HS.out w1 B1) | (go_at_call 112; (with_reducible refine (RPeriods_any r f lo tm _ _ pl _ (HR.out _ b1).2).mono ?_); rintro e w2 ⟨rfl, c2⟩; rw [hq]; have B2 : Below (w.heap.size + 2) W0 w2 := B1.trans (c2.mono z0); clear y0 y1 y2 y3 y4 v0 v1 f0 f1 z0; obtain ⟨y0, y1, y2, y3, y4, v0, v1, f0, f1, b2, z0⟩ := HS.out w2 B2))
  have d0 : ((w2.setCell ⟨w.heap.size + 1, 0, none⟩ (.slice none 0 0)).setCell ⟨w.heap.size + 1, 1, none⟩ (.int .i64 0)).cell? ⟨w.heap.size + 1, 0, none⟩ = some (.slice none 0 0) := set_other _ (set_same _ v0) (by intro h; simp at h)
  have d1 : ((w2.setCell ⟨w.heap.size + 1, 0, none⟩ (.slice none 0 0)).setCell ⟨w.heap.size + 1, 1, none⟩ (.int .i64 0)).cell? ⟨w.heap.size + 1, 1, none⟩ = some (.int .i64 0) := set_same _ (set_other _ v1 (by intro h; simp at h))
  exact bodyPost_ret (v := .tuple #[.agg #[.slice none 0 0, .int .i64 0], .int .i64 0, .int .i64 2]) (by simp [results, Tryz.results62, go_sem, d0, d1]) rfl ⟨_, rfl, IsRow.nil _, fun q hq => by simp [Value.ownBlock] at hq, (by ((with_reducible repeat' first | exact .refl _ _ | exact b2 | refine .alloc ?_ ?_ _ | refine .setCell ?_ ?_ _ | refine .drew ?_ | refine below_drewN ?_ _ | refine Below.trans ?_ (b2.mono ?_)) <;> first | omega | simp <;> omega))⟩
 ·obtain ⟨hO, hEE⟩ := hno _ hE (by decide)
  rw [hO, hEE]
  simp only at hq
  clear hno hE hO hEE
  go_enter Tryz.func62, Tryz.ntmps62
  go_upto_region 1 with fail
  rw [← hW0]
  clear hW0
  have B0 : Below (w.heap.size + 2) W0 W0 := Below.refl _ _
  obtain ⟨y0, y1, y2, y3, y4, v0, v1, f0, f1, b0, z0⟩ := HS.out W0 B0
  go_wp2_with (first | (go_at_call 89; (with_reducible refine (R29Valid_any r f lo tm _ ps _ (HR.out _ b0).1).mono ?_); rintro e w1 ⟨rfl, c1⟩; rw [hs]; have B1 : Below (w.heap.size + 2) W0 w1 := B0.trans (c1.mono z0); clear y0 y1 y2 y3 y4 v0 v1 f0 f1 z0; obtain ⟨y0, y1, y2, y3, y4, v0, v1, f0, f1, b1, z0⟩ := HS.out w1 B1) | (go_at_call 112; (with_reducible refine (RPeriods_any r f lo tm _ _ pl _ (HR.out _ b1).2).mono ?_); rintro e w2 ⟨rfl, c2⟩; rw [hq]; have B2 : Below (w.heap.size + 2) W0 w2 := B1.trans (c2.mono z0); clear y0 y1 y2 y3 y4 v0 v1 f0 f1 z0; obtain ⟨y0, y1, y2, y3, y4, v0, v1, f0, f1, b2, z0⟩ := HS.out w2 B2))
  have d0 : ((w2.setCell ⟨w.heap.size + 1, 0, none⟩ (.slice none 0 0)).setCell ⟨w.heap.size + 1, 1, none⟩ (.int .i64 0)).cell? ⟨w.heap.size + 1, 0, none⟩ = some (.slice none 0 0) := set_other _ (set_same _ v0) (by intro h; simp at h)
  have d1 : ((w2.setCell ⟨w.heap.size + 1, 0, none⟩ (.slice none 0 0)).setCell ⟨w.heap.size + 1, 1, none⟩ (.int .i64 0)).cell? ⟨w.heap.size + 1, 1, none⟩ = some (.int .i64 0) := set_same _ (set_other _ v1 (by intro h; simp at h))
  exact bodyPost_ret (v := .tuple #[.agg #[.slice none 0 0, .int .i64 0], .int .i64 0, .int .i64 1]) (by simp [results, Tryz.results62, go_sem, d0, d1]) rfl ⟨_, rfl, IsRow.nil _, fun q hq => by simp [Value.ownBlock] at hq, (by ((with_reducible repeat' first | exact .refl _ _ | exact b2 | refine .alloc ?_ ?_ _ | refine .setCell ?_ ?_ _ | refine .drew ?_ | refine below_drewN ?_ _ | refine Below.trans ?_ (b2.mono ?_)) <;> first | omega | simp <;> omega))⟩
 ·obtain ⟨hO, hEE⟩ := hno _ hE (by decide)
  rw [hO, hEE]
  clear hno hE hO hEE
  go_enter Tryz.func62, Tryz.ntmps62
  go_upto_region 1 with fail
  rw [← hW0]
  clear hW0
  have B0 : Below (w.heap.size + 2) W0 W0 := Below.refl _ _
  obtain ⟨y0, y1, y2, y3, y4, v0, v1, f0, f1, b0, z0⟩ := HS.out W0 B0
  go_wp2_with (first | (go_at_call 89; (with_reducible refine (R29Valid_any r f lo tm _ ps _ (HR.out _ b0).1).mono ?_); rintro e w1 ⟨rfl, c1⟩; rw [hs]; have B1 : Below (w.heap.size + 2) W0 w1 := B0.trans (c1.mono z0); clear y0 y1 y2 y3 y4 v0 v1 f0 f1 z0; obtain ⟨y0, y1, y2, y3, y4, v0, v1, f0, f1, b1, z0⟩ := HS.out w1 B1))
  have d0 : ((w1.setCell ⟨w.heap.size + 1, 0, none⟩ (.slice none 0 0)).setCell ⟨w.heap.size + 1, 1, none⟩ (.int .i64 0)).cell? ⟨w.heap.size + 1, 0, none⟩ = some (.slice none 0 0) := set_other _ (set_same _ v0) (by intro h; simp at h)
  have d1 : ((w1.setCell ⟨w.heap.size + 1, 0, none⟩ (.slice none 0 0)).setCell ⟨w.heap.size + 1, 1, none⟩ (.int .i64 0)).cell? ⟨w.heap.size + 1, 1, none⟩ = some (.int .i64 0) := set_same _ (set_other _ v1 (by intro h; simp at h))
  exact bodyPost_ret (v := .tuple #[.agg #[.slice none 0 0, .int .i64 0], .int .i64 0, .int .i64 1]) (by simp [results, Tryz.results62, go_sem, d0, d1]) rfl ⟨_, rfl, IsRow.nil _, fun q hq => by simp [Value.ownBlock] at hq, (by ((with_reducible repeat' first | exact .refl _ _ | exact b1 | refine .alloc ?_ ?_ _ | refine .setCell ?_ ?_ _ | refine .drew ?_ | refine below_drewN ?_ _ | refine Below.trans ?_ (b1.mono ?_)) <;> first | omega | simp <;> omega))⟩
def fewB30 (n k : Nat) : Bool := decide (k ≤ 12 ∧ (n ≤ 7 ∧ k ≤ 4 ∨ 10 < n ∧ n ≤ 20 ∨ n ≤ 4))
set_option maxRecDepth 100000 in
set_option maxHeartbeats 1000000 in
theorem R30Few_any (r f lo tm : Int) (pv : Value) (ps : List Pr) (v : Value) (pl : List Int) (w : World) (hp : PrRow w pv ps) (hv : IsRow w v pl) :
  Calls Tryz.prog 21 #[.agg #[.int .i64 r, .int .i64 f, .int .i64 lo, .int .i64 tm, pv], v] w fun e w' => e = .returned (.bool (fewB30 ps.length pl.length)) ∧ Below w.heap.size w w' := by
 obtain ⟨pa, pc, rfl, q1, q2⟩ := hp.len
 obtain ⟨va, vc, rfl, u1, u2, u3⟩ := hv
 clear u3
 obtain ⟨R, hR⟩ : ∃ R, R = fewB30 ps.length pl.length := ⟨_, rfl⟩
 rw [← hR]
 have hT : (pl.length ≤ 12 ∧ (ps.length ≤ 7 ∧ pl.length ≤ 4 ∨ 10 < ps.length ∧ ps.length ≤ 20 ∨ ps.length ≤ 4)) → R = true := fun h => hR.trans (decide_eq_true h)
 have hF : ¬ (pl.length ≤ 12 ∧ (ps.length ≤ 7 ∧ pl.length ≤ 4 ∨ 10 < ps.length ∧ ps.length ≤ 20 ∨ ps.length ≤ 4)) → R = false := fun h => hR.trans (decide_eq_false h)
 by_cases g0 : (pl.length : Int) ≤ 12
 ·have d0 : decide ((pl.length : Int) ≤ 12) = true := decide_eq_true g0
  by_cases g1 : (ps.length : Int) ≤ 7
  ·have d1 : decide ((ps.length : Int) ≤ 7) = true := decide_eq_true g1
   by_cases g2 : (pl.length : Int) ≤ 4
   ·have d2 : decide ((pl.length : Int) ≤ 4) = true := decide_eq_true g2
    have d3 : decide ((10 : Int) < (ps.length : Int)) = false := decide_eq_false (by omega)
    have d4 : decide ((ps.length : Int) ≤ 20) = true := decide_eq_true (by omega)
    by_cases g5 : (ps.length : Int) ≤ 4
    ·have d5 : decide ((ps.length : Int) ≤ 4) = true := decide_eq_true g5
     have hv : R = true := hT (by omega)
     rw [hv]
     clear hT hF hR hv g0 g1 g2 g5
     go_enter Tryz.func21, Tryz.ntmps21
     go_wp2_with fail
     go_ret
     exact ⟨rfl, (by ((with_reducible repeat' first | exact .refl _ _ | refine .alloc ?_ ?_ _ | refine .setCell ?_ ?_ _ | refine .drew ?_ | refine below_drewN ?_ _) <;> first | omega | simp <;> omega))⟩
    ·have d5 : decide ((ps.length : Int) ≤ 4) = false := decide_eq_false g5
     have hv : R = true := hT (by omega)
     rw [hv]
     clear hT hF hR hv g0 g1 g2 g5
     go_enter Tryz.func21, Tryz.ntmps21
     go_wp2_with fail
     go_ret
     exact ⟨rfl, (by ((with_reducible repeat' first | exact .refl _ _ | refine .alloc ?_ ?_ _ | refine .setCell ?_ ?_ _ | refine .drew ?_ | refine below_drewN ?_ _) <;> first | omega | simp <;> omega))⟩
   ·have d2 : decide ((pl.length : Int) ≤ 4) = false := decide_eq_false g2
    have d3 : decide ((10 : Int) < (ps.length : Int)) = false := decide_eq_false (by omega)
    have d4 : decide ((ps.length : Int) ≤ 20) = true := decide_eq_true (by omega)
    by_cases g5 : (ps.length : Int) ≤ 4
    ·have d5 : decide ((ps.length : Int) ≤ 4) = true := decide_eq_true g5
     have hv : R = true := hT (by omega)
     rw [hv]
     clear hT hF hR hv g0 g1 g2 g5
     go_enter Tryz.func21, Tryz.ntmps21
     go_wp2_with fail
     go_ret
     exact ⟨rfl, (by ((with_reducible repeat' first | exact .refl _ _ | refine .alloc ?_ ?_ _ | refine .setCell ?_ ?_ _ | refine .drew ?_ | refine below_drewN ?_ _) <;> first | omega | simp <;> omega))⟩
    ·have d5 : decide ((ps.length : Int) ≤ 4) = false := decide_eq_false g5
     have hv : R = false := hF (by omega)
     rw [hv]
     clear hT hF hR hv g0 g1 g2 g5
     go_enter Tryz.func21, Tryz.ntmps21
     go_wp2_with fail
     go_ret
     exact ⟨rfl, (by ((with_reducible repeat' first | exact .refl _ _ | refine .alloc ?_ ?_ _ | refine .setCell ?_ ?_ _ | refine .drew ?_ | refine below_drewN ?_ _) <;> first | omega | simp <;> omega))⟩
  ·have d1 : decide ((ps.length : Int) ≤ 7) = false := decide_eq_false g1
   by_cases g2 : (pl.length : Int) ≤ 4
   ·have d2 : decide ((pl.length : Int) ≤ 4) = true := decide_eq_true g2
    by_cases g3 : (10 : Int) < (ps.length : Int)
    ·have d3 : decide ((10 : Int) < (ps.length : Int)) = true := decide_eq_true g3
     by_cases g4 : (ps.length : Int) ≤ 20
     ·have d4 : decide ((ps.length : Int) ≤ 20) = true := decide_eq_true g4
      have d5 : decide ((ps.length : Int) ≤ 4) = false := decide_eq_false (by omega)
      have hv : R = true := hT (by omega)
      rw [hv]
      clear hT hF hR hv g0 g1 g2 g3 g4
      go_enter Tryz.func21, Tryz.ntmps21
      go_wp2_with fail
      go_ret
      exact ⟨rfl, (by ((with_reducible repeat' first | exact .refl _ _ | refine .alloc ?_ ?_ _ | refine .setCell ?_ ?_ _ | refine .drew ?_ | refine below_drewN ?_ _) <;> first | omega | simp <;> omega))⟩
     ·have d4 : decide ((ps.length : Int) ≤ 20) = false := decide_eq_false g4
      have d5 : decide ((ps.length : Int) ≤ 4) = false := decide_eq_false (by omega)
      have hv : R = false := hF (by omega)
      rw [hv]
      clear hT hF hR hv g0 g1 g2 g3 g4
      go_enter Tryz.func21, Tryz.ntmps21
      go_wp2_with fail
      go_ret
      exact ⟨rfl, (by ((with_reducible repeat' first | exact .refl _ _ | refine .alloc ?_ ?_ _ | refine .setCell ?_ ?_ _ | refine .drew ?_ | refine below_drewN ?_ _) <;> first | omega | simp <;> omega))⟩
    ·have d3 : decide ((10 : Int) < (ps.length : Int)) = false := decide_eq_false g3
     have d4 : decide ((ps.length : Int) ≤ 20) = true := decide_eq_true (by omega)
     have d5 : decide ((ps.length : Int) ≤ 4) = false := decide_eq_false (by omega)
     have hv : R = false := hF (by omega)
     rw [hv]
     clear hT hF hR hv g0 g1 g2 g3
     go_enter Tryz.func21, Tryz.ntmps21
     go_wp2_with fail
     go_ret
     exact ⟨rfl, (by ((with_reducible repeat' first | exact .refl _ _ | refine .alloc ?_ ?_ _ | refine .setCell ?_ ?_ _ | refine .drew ?_ | refine below_drewN ?_ _) <;> first | omega | simp <;> omega))⟩
   ·have d2 : decide ((pl.length : Int) ≤ 4) = false := decide_eq_false g2
    by_cases g3 : (10 : Int) < (ps.length : Int)
    ·have d3 : decide ((10 : Int) < (ps.length : Int)) = true := decide_eq_true g3
     by_cases g4 : (ps.length : Int) ≤ 20
     ·have d4 : decide ((ps.length : Int) ≤ 20) = true := decide_eq_true g4
      have d5 : decide ((ps.length : Int) ≤ 4) = false := decide_eq_false (by omega)
      have hv : R = true := hT (by omega)
      rw [hv]
      clear hT hF hR hv g0 g1 g2 g3 g4
      go_enter Tryz.func21, Tryz.ntmps21
      go_wp2_with fail
      go_ret
      exact ⟨rfl, (by ((with_reducible repeat' first | exact .refl _ _ | refine .alloc ?_ ?_ _ | refine .setCell ?_ ?_ _ | refine .drew ?_ | refine below_drewN ?_ _) <;> first | omega | simp <;> omega))⟩
     ·have d4 : decide ((ps.length : Int) ≤ 20) = false := decide_eq_false g4
      have d5 : decide ((ps.length : Int) ≤ 4) = false := decide_eq_false (by omega)
      have hv : R = false := hF (by omega)
      rw [hv]
      clear hT hF hR hv g0 g1 g2 g3 g4
      go_enter Tryz.func21, Tryz.ntmps21
      go_wp2_with fail
      go_ret
      exact ⟨rfl, (by ((with_reducible repeat' first | exact .refl _ _ | refine .alloc ?_ ?_ _ | refine .setCell ?_ ?_ _ | refine .drew ?_ | refine below_drewN ?_ _) <;> first | omega | simp <;> omega))⟩
    ·have d3 : decide ((10 : Int) < (ps.length : Int)) = false := decide_eq_false g3
     have d4 : decide ((ps.length : Int) ≤ 20) = true := decide_eq_true (by omega)
     have d5 : decide ((ps.length : Int) ≤ 4) = false := decide_eq_false (by omega)
     have hv : R = false := hF (by omega)
     rw [hv]
     clear hT hF hR hv g0 g1 g2 g3
     go_enter Tryz.func21, Tryz.ntmps21
     go_wp2_with fail
     go_ret
     exact ⟨rfl, (by ((with_reducible repeat' first | exact .refl _ _ | refine .alloc ?_ ?_ _ | refine .setCell ?_ ?_ _ | refine .drew ?_ | refine below_drewN ?_ _) <;> first | omega | simp <;> omega))⟩
 ·have d0 : decide ((pl.length : Int) ≤ 12) = false := decide_eq_false g0
  have hv : R = false := hF (by omega)
  rw [hv]
  clear hT hF hR hv g0
  go_enter Tryz.func21, Tryz.ntmps21
  go_wp2_with fail
  go_ret
  exact ⟨rfl, (by ((with_reducible repeat' first | exact .refl _ _ | refine .alloc ?_ ?_ _ | refine .setCell ?_ ?_ _ | refine .drew ?_ | refine below_drewN ?_ _) <;> first | omega | simp <;> omega))⟩
end Go.Proofs.YtigjljmhpkeahaaGreat
