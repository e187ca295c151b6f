/- PlanCheapest: for all arguments the statement answers true and leaves its arguments as they were. No condition. -/
import Derived.Test.YtiaahfccebmkdaaPlR
import Derived.Test.YtiaahfccebmkdaaPlQ
import Derived.Deep.RegionLaw
import Derived.Test.YtiaahfccebmkdaaFg
import Derived.Test.YtiaahfccebmkdaaFs
namespace Go.Proofs.Ytiaahfccebmkdaa
open Go.RowKit

theorem us_ck {s : Si} {pl : List Int} (h : usB s pl = true) : ckE s pl = 0 := by
  have h1 := of_decide_eq_true h
  unfold ckE
  rw [if_pos ⟨h1.2.2.1, h1.2.2.2⟩, if_pos (by omega)]
theorem made_cells2 {W V : World} {o0 o1 : Value} {t : TypeId} (b : Below (W.alloc (.cells #[o0, o1] t)).heap.size (W.alloc (.cells #[o0, o1] t)) V) :
    V.cell? ⟨W.heap.size, 0, none⟩ = some o0 ∧ V.cell? ⟨W.heap.size, 1, none⟩ = some o1 ∧ V.frozen? ⟨W.heap.size, 0, none⟩ = false ∧ V.frozen? ⟨W.heap.size, 1, none⟩ = false ∧ W.heap.size < V.heap.size := by
  have h := bk b W.heap.size (by simp)
  have z := b.size
  simp only [World.size_alloc] at z
  refine ⟨(h.1 _).trans (by simp), (h.1 _).trans (by simp), (h.2 _).trans (by simp [go_sem]), (h.2 _).trans (by simp [go_sem]), by omega⟩
theorem made_cells2D {W V : World} {o0 o1 : Value} {t : TypeId} (b : Below (W.alloc (.cells #[o0, o1] t)).drew.heap.size (W.alloc (.cells #[o0, o1] t)).drew V) :
    V.cell? ⟨W.heap.size, 0, none⟩ = some o0 ∧ V.cell? ⟨W.heap.size, 1, none⟩ = some o1 ∧ V.frozen? ⟨W.heap.size, 0, none⟩ = false ∧ V.frozen? ⟨W.heap.size, 1, none⟩ = false ∧ W.heap.size < V.heap.size :=
  made_cells2 (W := W) (V := V) (o0 := o0) (o1 := o1) (t := t) ⟨b.os, b.tape, b.output, b.size, b.block⟩
/-- A schedule put into a block of its own. -/
theorem put2 {W0 V : World} {n g : Nat} {uv o0 o1 : Value} {ev : Int} {l : List Int} (c0 : V.cell? ⟨g, 0, none⟩ = some o0) (c1 : V.cell? ⟨g, 1, none⟩ = some o1) (hg : n ≤ g) (hgV : g < V.heap.size) (hrow : IsRow V uv l) (hown : 0 < l.length → ∀ q, uv.ownBlock = some q → q ≠ g) (hB : Below n W0 V) :
    BxS ((V.setCell ⟨g, 0, none⟩ uv).setCell ⟨g, 1, none⟩ (.int .i64 ev)) g uv l ev ∧ Below n W0 ((V.setCell ⟨g, 0, none⟩ uv).setCell ⟨g, 1, none⟩ (.int .i64 ev)) :=
  ⟨⟨set_other _ (set_same _ c0) (by intro h; simp at h), set_same _ (set_other _ c1 (by intro h; simp at h)), isrow_set (isrow_set hrow _ _ hown) _ _ hown, by simpa [World.setCell] using hgV⟩, (hB.setCell (p := ⟨g, 0, none⟩) hg _).setCell (p := ⟨g, 1, none⟩) hg _⟩
theorem step_call2 {P : Program} {ops : Array Oper} {o : Oper} {a : Act} {w : World} {K : Act → World → Prop} {Q : Exit → Act → World → Prop} {E : Prop}
    (hg : o.guard = none) (x y : Operand) (f : FuncId) (ts : Array TypeId) (hop : o.op = Op.call { callee := Callee.value (Operand.func f), args := #[x, y], argTypes := ts })
    (v u : Value) (hx : a.eval x = v) (hy : a.eval y = u) (eg : ∀ args w, (callFunc f args).run P w = .ok (.enter f args) w) {R : Ending → World → Prop} (hC : Calls P f #[v, u] w R) (hK : ∀ e w', R e w' → ∃ q, e = .returned q ∧ K (a.put o.dst q) w') :
    if Region.wanted o (yielded ops a.tmps) = true then Oper.wp P o a w K Q else E := by
  have hw : Region.wanted o (yielded ops a.tmps) = true := by simp [Region.wanted, hg]
  rw [if_pos hw]
  have hr : (execOp a.eval o).run P w = .ok (.enter f #[v, u]) w := by
    simp [execOp, hop, resolve, invoke, go_sem, eg]
    subst hx hy
    exact ⟨by cases x <;> first | rfl | simp [Act.eval], by cases y <;> first | rfl | simp [Act.eval]⟩
  unfold Oper.wp
  rw [hr, Oper.upon_enter]
  refine hC.mono ?_
  intro e w' h
  obtain ⟨q, rfl, hk⟩ := hK e w' h
  exact hk
set_option maxRecDepth 100000 in
set_option maxHeartbeats 4000000 in
theorem PlCheapest_any (w : World) (v0 : Value) (s : SiA) (hs : SiOk w v0 s) (v : Value) (pl : List Int) (hv : IsRow w v pl) (_wl : WfI pl) (x : Int) (mk : Int) (hmk : 0 ≤ mk ∧ mk ≤ 255) (wh : Int) (hwh : 0 ≤ wh ∧ wh ≤ 255) :
    Calls Try.prog 4 #[v0, v, .int .i64 x, .int .u8 mk, .int .u8 wh] w fun e w' => e = .returned (.bool true) ∧ Below w.heap.size w w' := by
  obtain ⟨r, f, lo, tm, pv, ps⟩ := s
  obtain ⟨rfl, hp, -, -⟩ := hs
  simp only at hp ⊢
  obtain ⟨pa, pc, rfl, -, -⟩ := hp.len
  obtain ⟨va, vc, rfl, -, -, -⟩ := id hv
  obtain ⟨W0, hW0⟩ : ∃ W : World, W = w.alloc (.cells #[.int .i64 r, .int .i64 f, .int .i64 lo, .int .i64 tm, .slice pa ps.length pc] 24) := ⟨_, rfl⟩
  have hS : ∀ V : World, Below (w.heap.size + 1) W0 V → (V.cell? ⟨w.heap.size, 0, none⟩ = some (.int .i64 r) ∧ V.cell? ⟨w.heap.size, 1, none⟩ = some (.int .i64 f) ∧ V.cell? ⟨w.heap.size, 2, none⟩ = some (.int .i64 lo) ∧ V.cell? ⟨w.heap.size, 3, none⟩ = some (.int .i64 tm) ∧ V.cell? ⟨w.heap.size, 4, none⟩ = some (.slice pa ps.length pc)) ∧ PrRow V (.slice pa ps.length pc) ps ∧ IsRow V (.slice va pl.length vc) pl ∧ Below w.heap.size w V ∧ w.heap.size + 1 ≤ V.heap.size := by
    intro V hV
    have bW : Below w.heap.size w W0 := by rw [hW0]; ((repeat' (first | with_reducible exact Below.refl _ _ | with_reducible refine Below.alloc ?_ ?_ _ | with_reducible refine Below.setCell ?_ ?_ _ | with_reducible refine Below.drew ?_ | with_reducible refine below_drewN ?_ _)) <;> (first | omega | (simp; done) | (simp; omega)))
    have zW : W0.heap.size = w.heap.size + 1 := by rw [hW0]; simp
    have hb := bW.trans (hV.mono (by omega))
    have h0 := (bk hV w.heap.size (by omega)).1
    exact ⟨⟨(h0 0).trans (by rw [hW0]; simp), (h0 1).trans (by rw [hW0]; simp), (h0 2).trans (by rw [hW0]; simp), (h0 3).trans (by rw [hW0]; simp), (h0 4).trans (by rw [hW0]; simp)⟩, hp.below (Nat.le_refl _) hb, hv.below (Nat.le_refl _) hb, hb, by have := hV.size; omega⟩
  have HS := hide hS
  clear hS hp hv
  obtain ⟨m, rfl⟩ : ∃ m : Nat, mk = m := ⟨mk.toNat, by omega⟩
  obtain ⟨k, rfl⟩ : ∃ k : Nat, wh = k := ⟨wh.toNat, by omega⟩
  have hm : m < 256 := by omega
  have hk : k < 256 := by omega
  clear hmk hwh
  cases hU : usB ⟨r, f, lo, tm, ps⟩ pl with
  | false =>
    go_enter Try.func4, Try.ntmps4
    go_upto_region 1 with fail
    rw [← hW0]
    clear hW0
    have B0 : Below (w.heap.size + 1) W0 W0 := Below.refl _ _
    obtain ⟨⟨y0, y1, y2, y3, y4⟩, -, -, -, yz⟩ := HS.out W0 B0
    have yq := Nat.lt_of_succ_le yz
    go_wp2_with fail
    refine (plHead_any _).mono ?_
    rintro e w1 ⟨rfl, b1⟩
    have B1 : Below (w.heap.size + 1) W0 w1 := B0.trans (b1.mono (HS.out _ B0).2.2.2.2)
    clear y0 y1 y2 y3 y4 yz yq b1 B0
    obtain ⟨⟨y0, y1, y2, y3, y4⟩, -, -, -, yz⟩ := HS.out w1 B1
    have yq := Nat.lt_of_succ_le yz
    go_wp2_with fail
    refine (usable_any r f lo tm _ ps _ pl _ (HS.out _ B1).2.1 (HS.out _ B1).2.2.1).mono ?_
    rintro e w2 ⟨rfl, b2⟩
    rw [hU]
    have B2 : Below (w.heap.size + 1) W0 w2 := B1.trans (b2.mono (HS.out _ B1).2.2.2.2)
    clear y0 y1 y2 y3 y4 yz yq b2 B1
    obtain ⟨⟨y0, y1, y2, y3, y4⟩, -, -, -, yz⟩ := HS.out w2 B2
    have yq := Nat.lt_of_succ_le yz
    go_wp2_with fail
    go_ret
    exact ⟨rfl, (HS.out _ B2).2.2.2.1⟩
  | true =>
    by_cases hx0 : x < 0
    · have d1 : decide (x < 0) = true := decide_eq_true hx0
      clear hx0
      go_enter Try.func4, Try.ntmps4
      go_upto_region 1 with fail
      rw [← hW0]
      clear hW0
      have B0 : Below (w.heap.size + 1) W0 W0 := Below.refl _ _
      obtain ⟨⟨y0, y1, y2, y3, y4⟩, -, -, -, yz⟩ := HS.out W0 B0
      have yq := Nat.lt_of_succ_le yz
      go_wp2_with fail
      refine (plHead_any _).mono ?_
      rintro e w1 ⟨rfl, b1⟩
      have B1 : Below (w.heap.size + 1) W0 w1 := B0.trans (b1.mono (HS.out _ B0).2.2.2.2)
      clear y0 y1 y2 y3 y4 yz yq b1 B0
      obtain ⟨⟨y0, y1, y2, y3, y4⟩, -, -, -, yz⟩ := HS.out w1 B1
      have yq := Nat.lt_of_succ_le yz
      go_wp2_with fail
      refine (usable_any r f lo tm _ ps _ pl _ (HS.out _ B1).2.1 (HS.out _ B1).2.2.1).mono ?_
      rintro e w2 ⟨rfl, b2⟩
      rw [hU]
      have B2 : Below (w.heap.size + 1) W0 w2 := B1.trans (b2.mono (HS.out _ B1).2.2.2.2)
      clear y0 y1 y2 y3 y4 yz yq b2 B1
      obtain ⟨⟨y0, y1, y2, y3, y4⟩, -, -, -, yz⟩ := HS.out w2 B2
      have yq := Nat.lt_of_succ_le yz
      go_wp2_with fail
      go_ret
      exact ⟨rfl, (HS.out _ B2).2.2.2.1⟩
    by_cases hx1 : 3000000000000000 < x
    · have d1 : decide (x < 0) = false := decide_eq_false hx0
      have d2 : decide (3000000000000000 < x) = true := decide_eq_true hx1
      clear hx0 hx1
      go_enter Try.func4, Try.ntmps4
      go_upto_region 1 with fail
      rw [← hW0]
      clear hW0
      have B0 : Below (w.heap.size + 1) W0 W0 := Below.refl _ _
      obtain ⟨⟨y0, y1, y2, y3, y4⟩, -, -, -, yz⟩ := HS.out W0 B0
      have yq := Nat.lt_of_succ_le yz
      go_wp2_with fail
      refine (plHead_any _).mono ?_
      rintro e w1 ⟨rfl, b1⟩
      have B1 : Below (w.heap.size + 1) W0 w1 := B0.trans (b1.mono (HS.out _ B0).2.2.2.2)
      clear y0 y1 y2 y3 y4 yz yq b1 B0
      obtain ⟨⟨y0, y1, y2, y3, y4⟩, -, -, -, yz⟩ := HS.out w1 B1
      have yq := Nat.lt_of_succ_le yz
      go_wp2_with fail
      refine (usable_any r f lo tm _ ps _ pl _ (HS.out _ B1).2.1 (HS.out _ B1).2.2.1).mono ?_
      rintro e w2 ⟨rfl, b2⟩
      rw [hU]
      have B2 : Below (w.heap.size + 1) W0 w2 := B1.trans (b2.mono (HS.out _ B1).2.2.2.2)
      clear y0 y1 y2 y3 y4 yz yq b2 B1
      obtain ⟨⟨y0, y1, y2, y3, y4⟩, -, -, -, yz⟩ := HS.out w2 B2
      have yq := Nat.lt_of_succ_le yz
      go_wp2_with fail
      go_ret
      exact ⟨rfl, (HS.out _ B2).2.2.2.1⟩
    have dx1 : decide (x < 0) = false := decide_eq_false hx0
    have dx2 : decide (3000000000000000 < x) = false := decide_eq_false hx1
    have Hx := hide (show 0 ≤ x ∧ x ≤ 3000000000000000 by omega)
    clear hx0 hx1
    have hus := of_decide_eq_true hU
    simp only at hus
    have hpl : 1 ≤ pl.length := by
      have := hus.2.2.2
      unfold prdB at this
      rw [Bool.and_eq_true, decide_eq_true_eq] at this
      exact this.2.1
    obtain ⟨j, hj⟩ : ∃ j, j = k % pl.length := ⟨_, rfl⟩
    have hjl : j < pl.length := by rw [hj]; exact Nat.mod_lt _ hpl
    have hjc : (k : Int) % (pl.length : Int) = (j : Int) := by rw [hj]; simp
    have hjt : (k : Int).tmod (pl.length : Int) = (j : Int) := by rw [hj]; simp [Int.tmod]
    have wm : IntKind.i64.wrap (m : Int) = (m : Int) := IntWalk.i64_in _ (by omega)
    have wk : IntKind.i64.wrap (k : Int) = (k : Int) := IntWalk.i64_in _ (by omega)
    have hUse := fun V => Use_any m ps.length (by omega) (by omega) V
    obtain ⟨hn7, -⟩ := hus
    have HU := hide hUse
    have Hj := hide hj
    have I1 : (0 : Int) ≤ (j : Int) := by omega
    have I2 : (j : Int) < (pl.length : Int) := by omega
    have I3 : ¬ ((pl.length : Int) = 0) := by omega
    have I4 : pl.length ≠ 0 := by omega
    clear hUse hj
    go_enter Try.func4, Try.ntmps4
    go_upto_region 1 with fail
    rw [← hW0]
    clear hW0
    have B0 : Below (w.heap.size + 1) W0 W0 := Below.refl _ _
    obtain ⟨⟨y0, y1, y2, y3, y4⟩, -, -, -, yz⟩ := HS.out W0 B0
    have yq := Nat.lt_of_succ_le yz
    go_wp2_with fail
    refine (plHead_any _).mono ?_
    rintro e w1 ⟨rfl, b1⟩
    have B1 : Below (w.heap.size + 1) W0 w1 := B0.trans (b1.mono (HS.out _ B0).2.2.2.2)
    clear y0 y1 y2 y3 y4 yz yq b1 B0
    obtain ⟨⟨y0, y1, y2, y3, y4⟩, -, -, -, yz⟩ := HS.out w1 B1
    have yq := Nat.lt_of_succ_le yz
    go_wp2_with fail
    refine (usable_any r f lo tm _ ps _ pl _ (HS.out _ B1).2.1 (HS.out _ B1).2.2.1).mono ?_
    rintro e w2 ⟨rfl, b2⟩
    rw [hU]
    have B2 : Below (w.heap.size + 1) W0 w2 := B1.trans (b2.mono (HS.out _ B1).2.2.2.2)
    clear y0 y1 y2 y3 y4 yz yq b2 B1
    obtain ⟨⟨y0, y1, y2, y3, y4⟩, -, -, -, yz⟩ := HS.out w2 B2
    have yq := Nat.lt_of_succ_le yz
    obtain ⟨b, off, hb0, hbl, hbc⟩ : ∃ b off, va = some ⟨b, off, none⟩ ∧ b < w2.heap.size ∧ w2.cell? ⟨b, off + j, none⟩ = some (.int .i64 (iAt pl j)) := by
      obtain ⟨va', vc', hve, -, -, h3⟩ := (HS.out _ B2).2.2.1
      cases hve
      exact h3 j hjl
    subst hb0
    generalize hev : iAt pl j = ev at *
    have Hev := hide hev
    have HB2 := hide B2
    clear hev
    go_upto_region 4 with fail
    go_cut [12] (fun s12 wx => ∃ g uv, s12 = .pointer (some ⟨g, 0, none⟩) ∧ BxS wx g uv (mkL m ps.length) ev ∧ Below (w.heap.size + 1) W0 wx)
    case first =>
      clear B2
      have yq2 : w.heap.size < w2.heap.size := yq
      go_region_law (refine step_call2 rfl (.tmp 39) (.tmp 42) 15 #[3, 3] rfl (.int .i64 (m : Int)) (.int .i64 (ps.length : Int)) (by simp [Act.eval, Act.put]) (by simp [Act.eval, Act.put]) (enters_of Try.func15 (by kernel_rfl) rfl) (HU.out _) ?_; rintro e w3 ⟨uv, rfl, hown, b3⟩; have b3' : Below w2.heap.size w2 w3 := (by ((repeat' (first | with_reducible exact Below.refl _ _ | with_reducible exact b3 | with_reducible refine Below.alloc ?_ ?_ _ | with_reducible refine Below.setCell ?_ ?_ _ | with_reducible refine Below.drew ?_ | with_reducible refine below_drewN ?_ _ | with_reducible refine Below.trans ?_ (b3.mono ?_))) <;> (first | omega | (simp; done) | (simp; omega)))); have hlow := World.ownsRow.lt hown; (try simp only [World.size_alloc, size_drew] at hlow); obtain ⟨ua, uc, huv, -, -⟩ := hown.val; subst huv; have Hrow := hide hown.row; have Hlow := hide hlow; have hbc3 := (b3'.cell (p := ⟨b, off + j, none⟩) hbl).trans hbc; have hbl3 := Nat.lt_of_lt_of_le hbl b3'.size; have B3h := hide b3'; clear hown hlow b3'; (first | (have tt := made_cells2 b3; obtain ⟨t0, t1, t2, t3, t6⟩ := tt) | (have tt := made_cells2D b3; obtain ⟨t0, t1, t2, t3, t6⟩ := tt) | skip); refine ⟨_, rfl, ?_⟩)
      all_goals go_wp2
      all_goals go_meet
      all_goals refine ⟨_, .slice ua (mkL m ps.length).length uc, rfl, ?_⟩
      all_goals first
        | exact put2 t0 t1 yz t6 Hrow.out (fun h0 q hq => by have := Hlow.out q hq; omega) (HB2.out.trans (B3h.out.mono yz))
        | exact ⟨BxS.made Hrow.out, (HB2.out.trans (B3h.out.mono yz)).alloc (by have := B3h.out.size; omega) _⟩
    case rest =>
      obtain ⟨g, uv, rfl, kc, Bc⟩ := hcut
      clear y0 y1 y2 y3 y4 yz yq hbl hbc B2 HB2 HU
      obtain ⟨⟨y0, y1, y2, y3, y4⟩, -, -, -, yz⟩ := HS.out wc Bc
      have yq := Nat.lt_of_succ_le yz
      obtain ⟨ua, uc, huv, -⟩ := id kc.2.2.1
      subst huv
      have hck := us_ck hU
      have hbs : bsE ⟨r, f, lo, tm, ps⟩ pl x = 0 := by unfold bsE; rw [if_pos Hx.out]; exact hck
      have hbo : bsO ⟨r, f, lo, tm, ps⟩ pl x = bstO false ⟨r, f, lo, tm, ps⟩ pl x := by unfold bsO; rw [if_pos hbs]
      have hmem : rgB ⟨r, f, lo, tm, ps⟩ (mkL m ps.length) ev = true → (⟨mkL m ps.length, ev, wdt ⟨r, f, lo, tm, ps⟩ (mkL m ps.length) ev⟩ : Of) ∈ ofL ⟨r, f, lo, tm, ps⟩ pl := fun h => by
        have := ofL_of (s := ⟨r, f, lo, tm, ps⟩) (pl := pl) m hjl (by rw [Hev.out]; exact h)
        rw [Hev.out] at this
        exact this
      have hwE : wdEr ⟨r, f, lo, tm, ps⟩ (mkL m ps.length) ev = if rgB ⟨r, f, lo, tm, ps⟩ (mkL m ps.length) ev = true then 0 else 1 := by unfold wdEr; cases rgB ⟨r, f, lo, tm, ps⟩ (mkL m ps.length) ev <;> rfl
      have hq := fun V (h1 : PrRow V (.slice pa ps.length pc) ps) uv (h2 : IsRow V uv (mkL m ps.length)) => wdWidthS_any r f lo tm _ ps uv (mkL m ps.length) ev V h1 h2
      obtain ⟨wd, hwd⟩ : ∃ x, x = wdt ⟨r, f, lo, tm, ps⟩ (mkL m ps.length) ev := ⟨_, rfl⟩
      rw [← hwd] at hmem hq
      clear hck hwd
      cases hR : rgB ⟨r, f, lo, tm, ps⟩ (mkL m ps.length) ev with
      | false =>
        rw [hR] at hwE
        simp only [Bool.false_eq_true, if_false] at hwE
        rw [hwE] at hq
        have Hq := hide hq
        clear hq hwE hmem hbs hbo
        obtain ⟨ckc0, ckc1, -, ckc3⟩ := id kc
        go_wp2_with fail
        refine (Hq.out _ (HS.out _ Bc).2.1 _ kc.2.2.1).mono ?_
        rintro e w11 ⟨rfl, b11⟩
        have B11 : Below (w.heap.size + 1) W0 w11 := Bc.trans (b11.mono (HS.out _ Bc).2.2.2.2)
        have tkc := kc.below (Nat.le_refl _) b11
        clear kc
        have kc := tkc
        clear tkc
        clear ckc0 ckc1 ckc3
        clear y0 y1 y2 y3 y4 yz yq b11 Bc
        obtain ⟨⟨y0, y1, y2, y3, y4⟩, -, -, -, yz⟩ := HS.out w11 B11
        have yq := Nat.lt_of_succ_le yz
        obtain ⟨ckc0, ckc1, -, ckc3⟩ := id kc
        go_wp2_with fail
        go_ret
        exact ⟨rfl, (HS.out _ B11).2.2.2.1⟩
      | true =>
        rw [hR] at hwE
        simp only [if_true] at hwE
        rw [hwE] at hq
        have Hq := hide hq
        clear hq hwE
        by_cases hle : x < wd
        · have dl : decide (x < wd) = true := decide_eq_true hle
          clear hle hmem hbs hbo
          obtain ⟨ckc0, ckc1, -, ckc3⟩ := id kc
          go_wp2_with fail
          refine (Hq.out _ (HS.out _ Bc).2.1 _ kc.2.2.1).mono ?_
          rintro e w11 ⟨rfl, b11⟩
          have B11 : Below (w.heap.size + 1) W0 w11 := Bc.trans (b11.mono (HS.out _ Bc).2.2.2.2)
          have tkc := kc.below (Nat.le_refl _) b11
          clear kc
          have kc := tkc
          clear tkc
          clear ckc0 ckc1 ckc3
          clear y0 y1 y2 y3 y4 yz yq b11 Bc
          obtain ⟨⟨y0, y1, y2, y3, y4⟩, -, -, -, yz⟩ := HS.out w11 B11
          have yq := Nat.lt_of_succ_le yz
          obtain ⟨ckc0, ckc1, -, ckc3⟩ := id kc
          go_wp2_with fail
          go_ret
          exact ⟨rfl, (HS.out _ B11).2.2.2.1⟩
        have dl : decide (x < wd) = false := decide_eq_false hle
        cases hN : bsO ⟨r, f, lo, tm, ps⟩ pl x with
        | none =>
          rw [hbo] at hN
          exact absurd (bst_no hN _ (hmem hR)) hle
        | some nb =>
          obtain ⟨nb1, nb2, nb3⟩ := bst_some (hbo.symm.trans hN)
          obtain ⟨-, nR, nW, -⟩ := ofL_v nb1
          have hlx := nb3 _ (hmem hR) (by simp only; omega)
          have hn2 := fun V (h1 : PrRow V (.slice pa ps.length pc) ps) uv (h2 : IsRow V uv nb.use) => wdWidthS_any r f lo tm _ ps uv nb.use nb.ev V h1 h2
          rw [wdEr_ok nR, ← nW] at hn2
          have Hn2 := hide hn2
          obtain ⟨hc1, hc2⟩ : chE ⟨r, f, lo, tm, ps⟩ (mkL m ps.length) ev nb.use nb.ev = 0 ∧ chB ⟨r, f, lo, tm, ps⟩ (mkL m ps.length) ev nb.use nb.ev = decide (cmpS ps (mkL m ps.length) ev nb.use nb.ev < 0) := ⟨by unfold chE; rw [if_pos ⟨hR, nR⟩], by unfold chB; rw [if_pos ⟨hR, nR⟩]⟩
          obtain ⟨hc3, hc4⟩ : chE ⟨r, f, lo, tm, ps⟩ nb.use nb.ev (mkL m ps.length) ev = 0 ∧ chB ⟨r, f, lo, tm, ps⟩ nb.use nb.ev (mkL m ps.length) ev = decide (cmpS ps nb.use nb.ev (mkL m ps.length) ev < 0) := ⟨by unfold chE; rw [if_pos ⟨nR, hR⟩], by unfold chB; rw [if_pos ⟨nR, hR⟩]⟩
          have hfin : decide (cmpS ps (mkL m ps.length) ev nb.use nb.ev < 0) = false ∧ (decide (cmpS ps nb.use nb.ev (mkL m ps.length) ev < 0) = true ∨ (decide (cmpS ps nb.use nb.ev (mkL m ps.length) ev < 0) = false ∧ nb.wd ≤ wd)) := by
            have f2 := cmpC_flip ps nb ⟨mkL m ps.length, ev, wd⟩
            have e2 : cmpW nb ⟨mkL m ps.length, ev, wd⟩ ≤ 0 ↔ nb.wd ≤ wd := cmpInt_le _ _
            have e3 : cmpC ps ⟨mkL m ps.length, ev, wd⟩ nb = cmpS ps (mkL m ps.length) ev nb.use nb.ev := rfl
            have e4 : cmpC ps nb ⟨mkL m ps.length, ev, wd⟩ = cmpS ps nb.use nb.ev (mkL m ps.length) ev := rfl
            rcases hlx with h | ⟨h, h'⟩
            · have h1 : cmpC ps nb ⟨mkL m ps.length, ev, wd⟩ < 0 := h
              exact ⟨decide_eq_false (by omega), .inl (decide_eq_true (by omega))⟩
            · have h1 : cmpC ps nb ⟨mkL m ps.length, ev, wd⟩ = 0 := h
              exact ⟨decide_eq_false (by omega), .inr ⟨decide_eq_false (by omega), e2.1 h'⟩⟩
          generalize decide (cmpS ps (mkL m ps.length) ev nb.use nb.ev < 0) = cx at *
          generalize decide (cmpS ps nb.use nb.ev (mkL m ps.length) ev < 0) = cy at *
          clear hn2 nR nW nb1 nb2 nb3 hlx hmem hbo hle
          obtain ⟨rfl, hf | ⟨hf, hf2⟩⟩ := hfin
          · subst hf
            obtain ⟨ckc0, ckc1, -, ckc3⟩ := id kc
            go_wp2_with fail
            refine (Hq.out _ (HS.out _ Bc).2.1 _ kc.2.2.1).mono ?_
            rintro e w11 ⟨rfl, b11⟩
            have B11 : Below (w.heap.size + 1) W0 w11 := Bc.trans (b11.mono (HS.out _ Bc).2.2.2.2)
            have tkc := kc.below (Nat.le_refl _) b11
            clear kc
            have kc := tkc
            clear tkc
            clear ckc0 ckc1 ckc3
            clear y0 y1 y2 y3 y4 yz yq b11 Bc
            obtain ⟨⟨y0, y1, y2, y3, y4⟩, -, -, -, yz⟩ := HS.out w11 B11
            have yq := Nat.lt_of_succ_le yz
            obtain ⟨ckc0, ckc1, -, ckc3⟩ := id kc
            go_wp2_with fail
            refine (plB_any r f lo tm _ ps _ pl x _ (HS.out _ B11).2.1 (HS.out _ B11).2.2.1).mono ?_
            rintro e w12 ⟨uv2, rfl, hrow2, hown2, b12⟩
            rw [hN, hbs]
            have B12 : Below (w.heap.size + 1) W0 w12 := B11.trans (b12.mono (HS.out _ B11).2.2.2.2)
            have tkc := kc.below (Nat.le_refl _) b12
            clear kc
            have kc := tkc
            clear tkc
            rw [hN] at hrow2
            simp only [accO, Option.getD_some] at hrow2
            obtain ⟨ua2, uc2, huv2, -⟩ := id hrow2
            subst huv2
            clear hown2 ckc0 ckc1 ckc3
            clear y0 y1 y2 y3 y4 yz yq b12 B11
            obtain ⟨⟨y0, y1, y2, y3, y4⟩, -, -, -, yz⟩ := HS.out w12 B12
            have yq := Nat.lt_of_succ_le yz
            simp only [accO, Option.getD_some, Option.isSome_some]
            obtain ⟨ckc0, ckc1, -, ckc3⟩ := id kc
            go_wp2_with fail
            clear ckc0 ckc1 ckc3
            have kn : BxS (w12.alloc (.cells #[.slice ua2 nb.use.length uc2, .int .i64 nb.ev] 29)) w12.heap.size (.slice ua2 nb.use.length uc2) nb.use nb.ev := BxS.made hrow2
            have b13 : Below w12.heap.size w12 (w12.alloc (.cells #[.slice ua2 nb.use.length uc2, .int .i64 nb.ev] 29)) := (by ((repeat' (first | with_reducible exact Below.refl _ _ | with_reducible refine Below.alloc ?_ ?_ _ | with_reducible refine Below.setCell ?_ ?_ _ | with_reducible refine Below.drew ?_ | with_reducible refine below_drewN ?_ _)) <;> (first | omega | (simp; done) | (simp; omega))))
            have tkc := kc.below (Nat.le_refl _) b13
            clear kc
            have kc := tkc
            clear tkc
            have B13 : Below (w.heap.size + 1) W0 (w12.alloc (.cells #[.slice ua2 nb.use.length uc2, .int .i64 nb.ev] 29)) := B12.trans (b13.mono (HS.out _ B12).2.2.2.2)
            obtain ⟨gkn, hgkn⟩ : ∃ g, g = w12.heap.size := ⟨_, rfl⟩
            rw [← hgkn] at kn ⊢
            clear hgkn b13 y0 y1 y2 y3 y4 yz yq B12
            generalize w12.alloc (.cells #[.slice ua2 nb.use.length uc2, .int .i64 nb.ev] 29) = w13 at *
            obtain ⟨⟨y0, y1, y2, y3, y4⟩, -, -, -, yz⟩ := HS.out w13 B13
            have yq := Nat.lt_of_succ_le yz
            obtain ⟨ckc0, ckc1, -, ckc3⟩ := id kc
            obtain ⟨ckn0, ckn1, -, ckn3⟩ := id kn
            refine (Cheaper_any r f lo tm _ ps _ (mkL m ps.length) ev _ nb.use nb.ev _ (HS.out _ B13).2.1 kc.2.2.1 kn.2.2.1).mono ?_
            rintro e w14 ⟨rfl, b14⟩
            rw [hc1, hc2]
            have B14 : Below (w.heap.size + 1) W0 w14 := B13.trans (b14.mono (HS.out _ B13).2.2.2.2)
            have tkc := kc.below (Nat.le_refl _) b14
            clear kc
            have kc := tkc
            clear tkc
            have tkn := kn.below (Nat.le_refl _) b14
            clear kn
            have kn := tkn
            clear tkn
            clear ckc0 ckc1 ckc3 ckn0 ckn1 ckn3
            clear y0 y1 y2 y3 y4 yz yq b14 B13
            obtain ⟨⟨y0, y1, y2, y3, y4⟩, -, -, -, yz⟩ := HS.out w14 B14
            have yq := Nat.lt_of_succ_le yz
            obtain ⟨ckc0, ckc1, -, ckc3⟩ := id kc
            obtain ⟨ckn0, ckn1, -, ckn3⟩ := id kn
            go_wp2_with fail
            refine (Cheaper_any r f lo tm _ ps _ nb.use nb.ev _ (mkL m ps.length) ev _ (HS.out _ B14).2.1 kn.2.2.1 kc.2.2.1).mono ?_
            rintro e w15 ⟨rfl, b15⟩
            rw [hc3, hc4]
            have B15 : Below (w.heap.size + 1) W0 w15 := B14.trans (b15.mono (HS.out _ B14).2.2.2.2)
            have tkc := kc.below (Nat.le_refl _) b15
            clear kc
            have kc := tkc
            clear tkc
            have tkn := kn.below (Nat.le_refl _) b15
            clear kn
            have kn := tkn
            clear tkn
            clear ckc0 ckc1 ckc3 ckn0 ckn1 ckn3
            clear y0 y1 y2 y3 y4 yz yq b15 B14
            obtain ⟨⟨y0, y1, y2, y3, y4⟩, -, -, -, yz⟩ := HS.out w15 B15
            have yq := Nat.lt_of_succ_le yz
            obtain ⟨ckc0, ckc1, -, ckc3⟩ := id kc
            obtain ⟨ckn0, ckn1, -, ckn3⟩ := id kn
            go_wp2_with fail
            refine (Hn2.out _ (HS.out _ B15).2.1 _ kn.2.2.1).mono ?_
            rintro e w16 ⟨rfl, b16⟩
            have B16 : Below (w.heap.size + 1) W0 w16 := B15.trans (b16.mono (HS.out _ B15).2.2.2.2)
            have tkc := kc.below (Nat.le_refl _) b16
            clear kc
            have kc := tkc
            clear tkc
            have tkn := kn.below (Nat.le_refl _) b16
            clear kn
            have kn := tkn
            clear tkn
            clear y0 y1 y2 y3 y4 yz yq b16 B15
            obtain ⟨⟨y0, y1, y2, y3, y4⟩, -, -, -, yz⟩ := HS.out w16 B16
            have yq := Nat.lt_of_succ_le yz
            go_wp2_with fail
            go_ret
            exact ⟨rfl, (HS.out _ B16).2.2.2.1⟩
          · subst hf
            have d3 : decide (nb.wd ≤ wd) = true := decide_eq_true hf2
            clear hf2
            obtain ⟨ckc0, ckc1, -, ckc3⟩ := id kc
            go_wp2_with fail
            refine (Hq.out _ (HS.out _ Bc).2.1 _ kc.2.2.1).mono ?_
            rintro e w11 ⟨rfl, b11⟩
            have B11 : Below (w.heap.size + 1) W0 w11 := Bc.trans (b11.mono (HS.out _ Bc).2.2.2.2)
            have tkc := kc.below (Nat.le_refl _) b11
            clear kc
            have kc := tkc
            clear tkc
            clear ckc0 ckc1 ckc3
            clear y0 y1 y2 y3 y4 yz yq b11 Bc
            obtain ⟨⟨y0, y1, y2, y3, y4⟩, -, -, -, yz⟩ := HS.out w11 B11
            have yq := Nat.lt_of_succ_le yz
            obtain ⟨ckc0, ckc1, -, ckc3⟩ := id kc
            go_wp2_with fail
            refine (plB_any r f lo tm _ ps _ pl x _ (HS.out _ B11).2.1 (HS.out _ B11).2.2.1).mono ?_
            rintro e w12 ⟨uv2, rfl, hrow2, hown2, b12⟩
            rw [hN, hbs]
            have B12 : Below (w.heap.size + 1) W0 w12 := B11.trans (b12.mono (HS.out _ B11).2.2.2.2)
            have tkc := kc.below (Nat.le_refl _) b12
            clear kc
            have kc := tkc
            clear tkc
            rw [hN] at hrow2
            simp only [accO, Option.getD_some] at hrow2
            obtain ⟨ua2, uc2, huv2, -⟩ := id hrow2
            subst huv2
            clear hown2 ckc0 ckc1 ckc3
            clear y0 y1 y2 y3 y4 yz yq b12 B11
            obtain ⟨⟨y0, y1, y2, y3, y4⟩, -, -, -, yz⟩ := HS.out w12 B12
            have yq := Nat.lt_of_succ_le yz
            simp only [accO, Option.getD_some, Option.isSome_some]
            obtain ⟨ckc0, ckc1, -, ckc3⟩ := id kc
            go_wp2_with fail
            clear ckc0 ckc1 ckc3
            have kn : BxS (w12.alloc (.cells #[.slice ua2 nb.use.length uc2, .int .i64 nb.ev] 29)) w12.heap.size (.slice ua2 nb.use.length uc2) nb.use nb.ev := BxS.made hrow2
            have b13 : Below w12.heap.size w12 (w12.alloc (.cells #[.slice ua2 nb.use.length uc2, .int .i64 nb.ev] 29)) := (by ((repeat' (first | with_reducible exact Below.refl _ _ | with_reducible refine Below.alloc ?_ ?_ _ | with_reducible refine Below.setCell ?_ ?_ _ | with_reducible refine Below.drew ?_ | with_reducible refine below_drewN ?_ _)) <;> (first | omega | (simp; done) | (simp; omega))))
            have tkc := kc.below (Nat.le_refl _) b13
            clear kc
            have kc := tkc
            clear tkc
            have B13 : Below (w.heap.size + 1) W0 (w12.alloc (.cells #[.slice ua2 nb.use.length uc2, .int .i64 nb.ev] 29)) := B12.trans (b13.mono (HS.out _ B12).2.2.2.2)
            obtain ⟨gkn, hgkn⟩ : ∃ g, g = w12.heap.size := ⟨_, rfl⟩
            rw [← hgkn] at kn ⊢
            clear hgkn b13 y0 y1 y2 y3 y4 yz yq B12
            generalize w12.alloc (.cells #[.slice ua2 nb.use.length uc2, .int .i64 nb.ev] 29) = w13 at *
            obtain ⟨⟨y0, y1, y2, y3, y4⟩, -, -, -, yz⟩ := HS.out w13 B13
            have yq := Nat.lt_of_succ_le yz
            obtain ⟨ckc0, ckc1, -, ckc3⟩ := id kc
            obtain ⟨ckn0, ckn1, -, ckn3⟩ := id kn
            refine (Cheaper_any r f lo tm _ ps _ (mkL m ps.length) ev _ nb.use nb.ev _ (HS.out _ B13).2.1 kc.2.2.1 kn.2.2.1).mono ?_
            rintro e w14 ⟨rfl, b14⟩
            rw [hc1, hc2]
            have B14 : Below (w.heap.size + 1) W0 w14 := B13.trans (b14.mono (HS.out _ B13).2.2.2.2)
            have tkc := kc.below (Nat.le_refl _) b14
            clear kc
            have kc := tkc
            clear tkc
            have tkn := kn.below (Nat.le_refl _) b14
            clear kn
            have kn := tkn
            clear tkn
            clear ckc0 ckc1 ckc3 ckn0 ckn1 ckn3
            clear y0 y1 y2 y3 y4 yz yq b14 B13
            obtain ⟨⟨y0, y1, y2, y3, y4⟩, -, -, -, yz⟩ := HS.out w14 B14
            have yq := Nat.lt_of_succ_le yz
            obtain ⟨ckc0, ckc1, -, ckc3⟩ := id kc
            obtain ⟨ckn0, ckn1, -, ckn3⟩ := id kn
            go_wp2_with fail
            refine (Cheaper_any r f lo tm _ ps _ nb.use nb.ev _ (mkL m ps.length) ev _ (HS.out _ B14).2.1 kn.2.2.1 kc.2.2.1).mono ?_
            rintro e w15 ⟨rfl, b15⟩
            rw [hc3, hc4]
            have B15 : Below (w.heap.size + 1) W0 w15 := B14.trans (b15.mono (HS.out _ B14).2.2.2.2)
            have tkc := kc.below (Nat.le_refl _) b15
            clear kc
            have kc := tkc
            clear tkc
            have tkn := kn.below (Nat.le_refl _) b15
            clear kn
            have kn := tkn
            clear tkn
            clear ckc0 ckc1 ckc3 ckn0 ckn1 ckn3
            clear y0 y1 y2 y3 y4 yz yq b15 B14
            obtain ⟨⟨y0, y1, y2, y3, y4⟩, -, -, -, yz⟩ := HS.out w15 B15
            have yq := Nat.lt_of_succ_le yz
            obtain ⟨ckc0, ckc1, -, ckc3⟩ := id kc
            obtain ⟨ckn0, ckn1, -, ckn3⟩ := id kn
            go_wp2_with fail
            refine (Hn2.out _ (HS.out _ B15).2.1 _ kn.2.2.1).mono ?_
            rintro e w16 ⟨rfl, b16⟩
            have B16 : Below (w.heap.size + 1) W0 w16 := B15.trans (b16.mono (HS.out _ B15).2.2.2.2)
            have tkc := kc.below (Nat.le_refl _) b16
            clear kc
            have kc := tkc
            clear tkc
            have tkn := kn.below (Nat.le_refl _) b16
            clear kn
            have kn := tkn
            clear tkn
            clear y0 y1 y2 y3 y4 yz yq b16 B15
            obtain ⟨⟨y0, y1, y2, y3, y4⟩, -, -, -, yz⟩ := HS.out w16 B16
            have yq := Nat.lt_of_succ_le yz
            go_wp2_with fail
            go_ret
            exact ⟨rfl, (HS.out _ B16).2.2.2.1⟩
set_option maxRecDepth 100000 in
theorem planCheapest_holds : Rows.PlanCheapestSaid :=
  OpenClaim.holds_of_wide 4 Try.f4 rfl rfl rfl rfl rfl rfl rfl ⟨rfl, rfl, rfl, rfl, rfl⟩ rfl rfl rfl rfl rfl (by kernel_rfl) Try.func4 (by kernel_rfl)
    (of_decide_eq_true (by kernel_rfl)) (by unfold Func.isWrapper; rw [if_neg (of_decide_eq_false (by kernel_rfl))]; exact ⟨rfl, rfl⟩)
    (fun os started H enc _ => law_lifted started 4 Try.f4 Try.func4 (by kernel_rfl) Rows.planCheapestSpec rfl rfl
      (fun ds h => by match ds, h with | [_, _, _, _, _], _ => exact ⟨rfl, rfl, rfl⟩)
      (fun t h => by
        rw [Try.params4] at h
        simp only [List.mem_cons, List.not_mem_nil, or_false] at h
        rcases h with rfl | rfl | rfl | rfl | rfl <;> exact ⟨by kernel_rfl, of_decide_eq_true (by kernel_rfl)⟩)
      (ChangeSpec.witness6 (enc := enc) (C := Try.checked) false ⟨#[], #[.agg #[.int .i64 0, .int .i64 0, .int .i64 0, .int .i64 0, .slice none 0 0], .slice none 0 0, .int .i64 0, .int .u8 0, .int .u8 0], []⟩ 8 (by kernel_rfl) (by kernel_rfl) (by kernel_rfl) (by kernel_rfl))
      (fun W base args ds p hA hok => by
        rw [Try.params4] at hA hok
        obtain ⟨v0, vs0, d0, ds0, p0, q0, hargs, rfl, rfl, h0, r0⟩ := ChangeShapes.trodAll_cons hA
        obtain ⟨v1, vs1, d1, ds1, p1, q1, rfl, rfl, rfl, h1, r1⟩ := ChangeShapes.trodAll_cons r0
        obtain ⟨v2, vs2, d2, ds2, p2, q2, rfl, rfl, rfl, h2, r2⟩ := ChangeShapes.trodAll_cons r1
        obtain ⟨v3, vs3, d3, ds3, p3, q3, rfl, rfl, rfl, h3, r3⟩ := ChangeShapes.trodAll_cons r2
        obtain ⟨v4, vs4, d4, ds4, p4, q4, rfl, rfl, rfl, h4, r4⟩ := ChangeShapes.trodAll_cons r3
        obtain ⟨rfl, rfl, rfl⟩ := ChangeShapes.trodAll_nil r4
        obtain rfl : args = #[v0, v1, v2, v3, v4] := by rw [← Array.toArray_toList (xs := args), hargs]
        obtain ⟨l0, hl0⟩ := open_site (hok 0 _ v0 rfl rfl) h0
        obtain ⟨l1, hl1, wl1⟩ := open_is (hok 1 _ v1 rfl rfl) h1
        obtain ⟨x2, rfl, hx2⟩ := open_i64 Try.underlying3 (hok 2 _ v2 rfl rfl) h2
        obtain ⟨x3, rfl, hx3⟩ := open_u8 Try.underlying5 (hok 3 _ v3 rfl rfl) h3
        obtain ⟨x4, rfl, hx4⟩ := open_u8 Try.underlying5 (hok 4 _ v4 rfl rfl) h4
        exact PlCheapest_any W v0 l0 hl0 v1 l1 hl1 wl1 x2 x3 hx3 x4 hx4))
end Go.Proofs.Ytiaahfccebmkdaa
