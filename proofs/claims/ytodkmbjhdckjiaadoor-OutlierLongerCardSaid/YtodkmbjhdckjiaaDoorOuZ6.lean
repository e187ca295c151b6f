/- OutlierLonger: for every list of intervals, three numbers and a further interval the statement answers true and leaves its arguments as they were. Its card ties the table of math/bits to the program's text. No other condition. -/
import Derived.Test.YtodkmbjhdckjiaaDoorOuQ
import Derived.Test.YtodkmbjhdckjiaaDoorFrT
import Derived.Test.YtodkmbjhdckjiaaDoorApq
import Derived.Deep.DeepCutAuto
namespace Go.Proofs.YtodkmbjhdckjiaaDoor
open Go.RowKit Go.Shelf
open Go.ChangeShapes Go.WideShapes
attribute [local go_sem ↓] run_max_mx run_min_mn run_eql_iv run_neq_iv
theorem encL_set (c : List Iv) (i : Nat) (p : Iv) (hi : i < c.length) : ((encL c).set (i * 2) (.int .i64 p.1)).set (i * 2 + 1) (.int .i64 p.2) = encL (c.set i p) := by
  induction c generalizing i with
  | nil => simp at hi
  | cons q c ih =>
    have e : encL (q :: c) = .int .i64 q.1 :: .int .i64 q.2 :: encL c := rfl
    cases i with
    | zero => rfl
    | succ i =>
      rw [e, show (i + 1) * 2 = i * 2 + 1 + 1 by omega]
      simp only [List.set_cons_succ]
      rw [ih i (by simpa using hi)]; rfl
theorem OwnP.set {T : TypeId} {w : World} {base g cap : Nat} {c : List Iv} (h : OwnP T w base (.slice (some ⟨g, 0, none⟩) c.length cap) c) (i : Nat) (hi : i < c.length) (p : Iv) :
    OwnP T ((w.setCell ⟨g, i * 2, none⟩ (.int .i64 p.1)).setCell ⟨g, i * 2 + 1, none⟩ (.int .i64 p.2)) base (.slice (some ⟨g, 0, none⟩) (c.set i p).length cap) (c.set i p) := by
  unfold OwnP
  rw [List.length_set, ← encL_set c i p hi]
  exact (World.ownsRow.stored (World.ownsRow.stored h (i * 2) (.int .i64 p.1)).1 (i * 2 + 1) (.int .i64 p.2)).1
theorem infoIv16 : (Tryd.prog.info? 42).map (fun i => (i.zero, i.size, i.bytes)) = some (some (.agg #[.int .i64 0, .int .i64 0]), 2, 16) := by kernel_rfl
theorem set_at (l : List Iv) (i : Nat) (p : Iv) (hi : i < l.length) (k : Nat) : iLo (l.set i p) k = (if i = k then p.1 else iLo l k) ∧ iHi (l.set i p) k = (if i = k then p.2 else iHi l k) := by
  by_cases h : i = k
  · subst h; simp [iLo, iHi, List.getD_eq_getElem?_getD, hi]
  · simp [iLo, iHi, List.getD_eq_getElem?_getD, h]
theorem ouOk_set {l : List Iv} (hl : ouOk l = true) {i : Nat} (hi : i < l.length) {p : Iv} (hp : 0 ≤ p.1 ∧ p.1 ≤ p.2 ∧ p.2 ≤ 3000000000000000) : ouOk (l.set i p) = true := by
  have h := (ouOk_iff l).1 hl
  rw [ouOk_iff]
  simp only [List.length_set]
  refine ⟨h.1, fun k hk => ?_⟩
  have := set_at l i p hi k
  rw [this.1, this.2]
  split
  · exact hp
  · exact h.2 k hk
theorem ouOk_app {l : List Iv} (hl : ouOk l = true) (h15 : l.length ≤ 15) {p : Iv} (hp : validB p.1 p.2 = true) : ouOk (l ++ [p]) = true := by
  have h := (ouOk_iff l).1 hl
  rw [validB_iff] at hp
  rw [ouOk_iff]
  simp only [List.length_append, List.length_cons, List.length_nil]
  refine ⟨by omega, fun k hk => ?_⟩
  rcases Nat.lt_or_ge k l.length with h1 | h1
  · have e : iLo (l ++ [p]) k = iLo l k ∧ iHi (l ++ [p]) k = iHi l k := by simp [iLo, iHi, List.getD_eq_getElem?_getD, List.getElem?_append_left h1]
    rw [e.1, e.2]; exact h.2 k h1
  · obtain rfl : k = l.length := by omega
    have e : iLo (l ++ [p]) l.length = p.1 ∧ iHi (l ++ [p]) l.length = p.2 := by simp [iLo, iHi, List.getD_eq_getElem?_getD]
    rw [e.1, e.2]; exact hp
set_option maxRecDepth 100000 in
set_option maxHeartbeats 2000000 in
theorem longer_walk (w : World) (hT : TabAt 0 Lib.deBruijn32tab w) (v : Value) (l : List Iv) (hv : IvRow w v l) (m : Nat) (hm : m < 256) (le ri : Int) (hle : 0 ≤ le ∧ le ≤ 65535) (hri : 0 ≤ ri ∧ ri ≤ 65535) (pa pb : Int) :
    Calls Tryd.prog 8 #[v, .int .u8 (m : Int), .int .u16 le, .int .u16 ri, .agg #[.int .i64 pa, .int .i64 pb]] w fun e w' => e = .returned (.bool true) ∧ Below w.heap.size w w' := by
  have hv0 := hv
  obtain ⟨a, cap, rfl, h1, h2, h3⟩ := hv
  have hW0 : Below w.heap.size w (w.alloc (.cells #[.int .i64 pa, .int .i64 pb] 42)) := (by ((repeat' (first | exact Below.refl _ _ | refine Below.alloc ?_ ?_ _ | refine Below.setCell ?_ ?_ _ | refine Below.drew ?_ | refine below_drewN ?_ _)) <;> (first | omega | (simp; done) | (simp; omega))))
  have y0 : (w.alloc (.cells #[.int .i64 pa, .int .i64 pb] 42)).cell? ⟨w.heap.size, 0, none⟩ = some (.int .i64 pa) := by simp
  have y1 : (w.alloc (.cells #[.int .i64 pa, .int .i64 pb] 42)).cell? ⟨w.heap.size, 1, none⟩ = some (.int .i64 pb) := by simp
  have zW : (w.alloc (.cells #[.int .i64 pa, .int .i64 pb] 42)).heap.size = w.heap.size + 1 := by simp
  have hhe := head_any _ (tab_below hT (Nat.le_refl _) hW0)
  cases hok : ouOk l with
  | false =>
    clear h3 y0 y1
    go_enter Tryd.func8, Tryd.ntmps8
    go_wp2_with fail
    refine hhe.mono ?_
    rintro e w1 ⟨rfl, b1⟩
    have B1 := hW0.trans (b1.mono hW0.size)
    have hrx := right16_any _ l _ (hv0.below (Nat.le_refl _) B1)
    rw [hok] at hrx
    go_wp2_with (go_at_call 18; refine hrx.mono ?_; rintro e w2 ⟨rfl, b2⟩)
    go_ret
    exact ⟨rfl, B1.trans (b2.mono B1.size)⟩
  | true =>
    have hpos := ((ouOk_iff l).1 hok).1
    by_cases h16 : l.length = 16
    · have h16' : ((l.length : Int) == 16) = true := by rw [beq_iff_eq]; omega
      clear h3 y0 y1 h16
      go_enter Tryd.func8, Tryd.ntmps8
      go_wp2_with fail
      refine hhe.mono ?_
      rintro e w1 ⟨rfl, b1⟩
      have B1 := hW0.trans (b1.mono hW0.size)
      have hrx := right16_any _ l _ (hv0.below (Nat.le_refl _) B1)
      rw [hok] at hrx
      go_wp2_with (go_at_call 18; refine hrx.mono ?_; rintro e w2 ⟨rfl, b2⟩)
      go_ret
      exact ⟨rfl, B1.trans (b2.mono B1.size)⟩
    · have h16' : ((l.length : Int) == 16) = false := by rw [beq_eq_false_iff_ne]; omega
      cases hvp : validB pa pb with
      | false =>
        clear h3 h16
        go_enter Tryd.func8, Tryd.ntmps8
        go_wp2_with fail
        refine hhe.mono ?_
        rintro e w1 ⟨rfl, b1⟩
        have B1 := hW0.trans (b1.mono hW0.size)
        have hrx := right16_any _ l _ (hv0.below (Nat.le_refl _) B1)
        rw [hok] at hrx
        have x0 := (b1.cell (p := ⟨w.heap.size, 0, none⟩) (by show w.heap.size < _; omega)).trans y0
        have x1 := (b1.cell (p := ⟨w.heap.size, 1, none⟩) (by show w.heap.size < _; omega)).trans y1
        have z1 := b1.size
        clear y0 y1
        go_wp2_with (first | (go_at_call 18; refine hrx.mono ?_; rintro e w2 ⟨rfl, b2⟩; obtain ⟨g2, f2⟩ := bk b2 w.heap.size (by omega)) | (go_at_call 24; refine (RValid_any _ _ _).mono ?_; rintro e w' ⟨rfl, rfl⟩; rw [hvp]))
        go_ret
        have z2 := b2.size
        exact ⟨rfl, (by ((repeat' (first | exact Below.refl _ _ | exact B1 | exact b2 | refine Below.alloc ?_ ?_ _ | refine Below.setCell ?_ ?_ _ | refine Below.drew ?_ | refine below_drewN ?_ _ | refine Below.trans ?_ (B1.mono ?_) | refine Below.trans ?_ (b2.mono ?_))) <;> (first | omega | (simp; done) | (simp; omega))))⟩
      | true =>
        have he : ouEr l = 0 := by simp [ouEr, hok]; omega
        have hlv := lstV_ok hok
        obtain ⟨i, hi⟩ : ∃ i, i = m % l.length := ⟨_, rfl⟩
        have hil : i < l.length := by rw [hi]; exact Nat.mod_lt _ (by omega)
        have hrem : (m : Int).tmod (l.length : Int) = (i : Int) := by rw [hi]; simp [Int.tmod]
        have hl0 : ((l.length : Int) == 0) = false := by rw [beq_eq_false_iff_ne]; omega
        have hl0' : (l.length : Int) ≠ 0 := by omega
        have hvi := ((ouOk_iff l).1 hok).2 i hil
        have ww1 : IntKind.i64.wrap (iLo l i - le) = iLo l i - le := IntWalk.i64_in _ (by omega)
        have ww2 : IntKind.i64.wrap (iHi l i + ri) = iHi l i + ri := IntWalk.i64_in _ (by omega)
        have ww3 : IntKind.i64.wrap le = le := IntWalk.i64_in _ (by omega)
        have ww4 : IntKind.i64.wrap ri = ri := IntWalk.i64_in _ (by omega)
        have hmx := mx_spec 0 (iLo l i - le)
        have hmn := mn_spec 3000000000000000 (iHi l i + ri)
        have hokm := ouOk_set hok hil (p := (mx 0 (iLo l i - le), mn 3000000000000000 (iHi l i + ri))) ⟨by omega, by omega, by omega⟩
        have hoka := ouOk_app hok (by omega) (p := (pa, pb)) hvp
        have hlaw := longer_law hok hokm (by simp) (fun k hk => by
          have := set_at l i (mx 0 (iLo l i - le), mn 3000000000000000 (iHi l i + ri)) hil k
          rw [this.1, this.2]
          split
          · rename_i e; subst e; exact ⟨by show mx 0 _ ≤ _; omega, by show _ ≤ mn _ _; omega⟩
          · exact ⟨Int.le_refl _, Int.le_refl _⟩)
        have hmore := hide (more_law hok hoka)
        have hem : ouEr (l.set i (mx 0 (iLo l i - le), mn 3000000000000000 (iHi l i + ri))) = 0 := by simp [ouEr, hokm]; omega
        have hea : ouEr (l ++ [(pa, pb)]) = 0 := by simp [ouEr, hoka]; omega
        have hlm := lstV_ok hokm
        have hla := lstV_ok hoka
        obtain ⟨lb, loff, rfl, lb1, lb2, lb3⟩ := h3 i hil
        have hbd := hide (lst_spec hok)
        obtain ⟨i0, hi0, hz0, hz1, hz2⟩ := info_parts infoIv16
        have Hok := hide hok
        clear h3 hi h16 hmx hmn hokm hoka hok hvi
        have hX1 := hide (rfl : mx 0 (iLo l i - le) = mx 0 (iLo l i - le))
        go_enter Tryd.func8, Tryd.ntmps8
        go_wp2_with fail
        refine hhe.mono ?_
        rintro e w1 ⟨rfl, b1⟩
        have B1 := hW0.trans (b1.mono hW0.size)
        have hrx := right16_any _ l _ (hv0.below (Nat.le_refl _) B1)
        have x0 := (b1.cell (p := ⟨w.heap.size, 0, none⟩) (by show w.heap.size < _; omega)).trans y0
        have x1 := (b1.cell (p := ⟨w.heap.size, 1, none⟩) (by show w.heap.size < _; omega)).trans y1
        have z1 := b1.size
        rw [Hok.out] at hrx
        clear y0 y1
        go_wp2_with (first | (go_at_call 18; refine hrx.mono ?_; rintro e w2 ⟨rfl, b2⟩; obtain ⟨g2, f2⟩ := bk b2 w.heap.size (by omega); have B2 := B1.trans (b2.mono B1.size); have z2 := B2.size; have z12 := b2.size; have hr2 := hv0.below (Nat.le_refl _) B2) | (go_at_call 24; refine (RValid_any _ _ _).mono ?_; rintro e w' ⟨rfl, rfl⟩; rw [hvp]) | (at_builtin; refine wpList_append_own _ rfl _ _ 22 rfl (w.heap.size + 1) 42 i0 (.agg #[.int .i64 0, .int .i64 0]) 2 16 Tryd.underlying22 hi0 hz0 hz1 hz2 rfl (by decide) _ 0 [] rfl (own_new0 _ (heap_n2 w2 _ _) (by omega)) ⟨lb, loff, none⟩ l.length cap (encL l) rfl (encL_length l) (ivrow_cells (hr2.below (Nat.le_refl _) (by ((repeat' (first | exact Below.refl _ _ | refine Below.alloc ?_ ?_ _ | refine Below.setCell ?_ ?_ _ | refine Below.drew ?_ | refine below_drewN ?_ _)) <;> (first | omega | (simp; done) | (simp; omega)))))) (encL_one l) (by unfold maxLen; omega) (by omega) (by simp; omega) ?_; intro v4 w4 hown4 hg4 _; obtain ⟨a4, cap4, rfl⟩ := ownsRow_val hown4))
        have bA : Below w2.heap.size w2 ((w2.alloc (.cells #[.int .i64 pa, .int .i64 pb] 42)).alloc (.cells #[] 42)) := (by ((repeat' (first | exact Below.refl _ _ | refine Below.alloc ?_ ?_ _ | refine Below.setCell ?_ ?_ _ | refine Below.drew ?_ | refine below_drewN ?_ _)) <;> (first | omega | (simp; done) | (simp; omega))))
        have hO : OwnIv w4 (w.heap.size + 1) (.slice a4 l.length cap4) l := by unfold OwnIv OwnP; simpa using hown4
        have B4 : Below (w.heap.size + 1) w2 w4 := (bA.mono (by omega)).grown hg4 (by simp; omega) (fun k h => by have h' : some (w2.heap.size + 1) = some k := h; cases h'; omega)
        have z4 := B4.size
        have B4' : Below w.heap.size w w4 := B2.trans (B4.mono (Nat.le_succ _))
        have u0 := (B4.cell (p := ⟨w.heap.size, 0, none⟩) (Nat.lt_succ_self _)).trans ((g2 0).trans x0)
        have u1 := (B4.cell (p := ⟨w.heap.size, 1, none⟩) (Nat.lt_succ_self _)).trans ((g2 1).trans x1)
        obtain ⟨g, cap5, hvv, gb1, gb2⟩ := World.ownsRow.form hO (by omega)
        cases hvv
        have hcp := hO.val
        obtain ⟨_, _, hcc, hcp1, _⟩ := hcp
        cases hcc
        have e0 : w4.cell? ⟨g, i * 2, none⟩ = some (.int .i64 (iLo l i)) := (World.ownsRow.cellAt hO (i * 2) (by first | omega | (rw [encL_length]; omega))).trans (encL_at l i hil).1
        have e1 : w4.cell? ⟨g, i * 2 + 1, none⟩ = some (.int .i64 (iHi l i)) := (World.ownsRow.cellAt hO (i * 2 + 1) (by first | omega | (rw [encL_length]; omega))).trans (encL_at l i hil).2
        have fz : ∀ o, w4.frozen? ⟨g, o, none⟩ = false := fun o => World.ownsRow.frozenAt hO o
        have hO5 := OwnP.set hO i hil (mx 0 (iLo l i - le), mn 3000000000000000 (iHi l i + ri))
        have HO := hide hO
        clear hO hown4 bA hg4 x0 x1 g2 f2 b2 b1 hrx
        go_region
        have hlen2 : (l.set i (mx 0 (iLo l i - le), mn 3000000000000000 (iHi l i + ri))).length = l.length := by simp
        have hO6 : OwnIv (((w4.setCell ⟨g, i * 2, none⟩ (.int .i64 (mx 0 (iLo l i - le)))).setCell ⟨g, i * 2 + 1, none⟩ (.int .i64 (mn 3000000000000000 (iHi l i + ri)))).drew) (w.heap.size + 1) (.slice (some ⟨g, 0, none⟩) l.length cap4) (l.set i (mx 0 (iLo l i - le), mn 3000000000000000 (iHi l i + ri))) := by
          rw [hlen2] at hO5
          exact ownsRow_below hO5 (Below.refl _ _).drew
        have B6 : Below (w.heap.size + 1) w4 (((w4.setCell ⟨g, i * 2, none⟩ (.int .i64 (mx 0 (iLo l i - le)))).setCell ⟨g, i * 2 + 1, none⟩ (.int .i64 (mn 3000000000000000 (iHi l i + ri)))).drew) := (((Below.refl _ _).setCell (p := ⟨g, i * 2, none⟩) gb1 _).setCell (p := ⟨g, i * 2 + 1, none⟩) gb1 _).drew
        generalize ((w4.setCell ⟨g, i * 2, none⟩ (.int .i64 (mx 0 (iLo l i - le)))).setCell ⟨g, i * 2 + 1, none⟩ (.int .i64 (mn 3000000000000000 (iHi l i + ri)))).drew = W6 at *
        have z6 := B6.size
        have BW6 : Below w.heap.size w W6 := B4'.trans (B6.mono (Nat.le_succ _))
        have u0' := (B6.cell (p := ⟨w.heap.size, 0, none⟩) (Nat.lt_succ_self _)).trans u0
        have u1' := (B6.cell (p := ⟨w.heap.size, 1, none⟩) (Nat.lt_succ_self _)).trans u1
        have hr6 := hO6.row
        clear hO5 hO6 e0 e1 fz u0 u1 B4 HO
        generalize l.set i (mx 0 (iLo l i - le), mn 3000000000000000 (iHi l i + ri)) = lm at *
        clear ww1 ww2 ww3 ww4 hlen2
        go_wp2_with fail
        refine (Least_any _ l _ (hv0.below (Nat.le_refl _) BW6)).mono ?_
        rintro e w7 ⟨rfl, b7⟩
        rw [he, hlv]
        have BW7 := BW6.trans (b7.mono BW6.size)
        go_wp2_with fail
        refine (Least_any _ lm _ (hr6.below (Nat.le_refl _) b7)).mono ?_
        rintro e w8 ⟨rfl, b8⟩
        rw [hem, hlm]
        have b68 := b7.trans (b8.mono b7.size)
        have BW8 := BW7.trans (b8.mono BW7.size)
        have hr8 := hv0.below (Nat.le_refl _) BW8
        have c80 := (b68.cell (p := ⟨w.heap.size, 0, none⟩) (by show w.heap.size < _; omega)).trans u0'
        have c81 := (b68.cell (p := ⟨w.heap.size, 1, none⟩) (by show w.heap.size < _; omega)).trans u1'
        have z8 : w.heap.size + 1 < w8.heap.size := by have := b68.size; omega
        have hWl : w.heap.size < w8.heap.size := by omega
        have hWl2 : w.heap.size < w8.heap.size + 1 := by omega
        have hRW : Below (w.heap.size + 1) w8 w8 := Below.refl _ _
        clear b7 b8 u0' u1' hr6 BW6 BW7 b68 B6 B4'
        go_upto_region 9 with fail
        go_cut [18, 19] (fun c er wx => c = .int .i64 (lst (l ++ [(pa, pb)])) ∧ er = .int .i64 0 ∧ Below w.heap.size w wx)
        case first =>
          have hl0' : ¬ l = [] := fun h => by rw [h] at hil; simp at hil
          go_region_law (first | (refine step_append_own rfl (.tmp 76) (.tmp 77) 22 rfl (w.heap.size + 1) 42 i0 (.agg #[.int .i64 0, .int .i64 0]) 2 16 Tryd.underlying22 hi0 hz0 hz1 hz2 rfl (by decide) _ 0 [] (by simp [Act.eval]) (own_new0 _ (heap_d1 w8 _) (by first | omega | (simp; omega) | (simp; done))) ⟨lb, loff, none⟩ l.length cap (encL l) (by simp [Act.eval]) (encL_length l) (ivrow_cells (hr8.below (Nat.le_refl _) (by ((repeat' (first | exact Below.refl _ _ | exact hRW | refine Below.alloc ?_ ?_ _ | refine Below.setCell ?_ ?_ _ | refine Below.drew ?_ | refine below_drewN ?_ _ | refine Below.trans ?_ (hRW.mono ?_))) <;> (first | omega | (simp; done) | (simp; omega)))))) (encL_one l) (by unfold maxLen; omega) (by omega) (by first | omega | (simp; omega) | (simp; done)) ?_; intro v1 X1 hown1 hg1; have hR1 : Below (w.heap.size + 1) w8 X1 := Below.grown (by ((repeat' (first | exact Below.refl _ _ | exact hRW | refine Below.alloc ?_ ?_ _ | refine Below.setCell ?_ ?_ _ | refine Below.drew ?_ | refine below_drewN ?_ _ | refine Below.trans ?_ (hRW.mono ?_))) <;> (first | omega | (simp; done) | (simp; omega)))) hg1 (by first | omega | (simp; omega) | (simp; done)) (by intro k hk; simp [Value.ownBlock] at hk; omega); have q0 := (hR1.cell (p := ⟨w.heap.size, 0, none⟩) (Nat.lt_succ_self _)).trans c80; have q1 := (hR1.cell (p := ⟨w.heap.size, 1, none⟩) (Nat.lt_succ_self _)).trans c81; have zR := hR1.size; have zX := Nat.lt_of_lt_of_le hWl zR; have zg := hg1.size; simp only [World.size_alloc, World.size_drew] at zg) | (refine step_append_own rfl (.tmp 76) (.tmp 77) 22 rfl (w.heap.size + 1) 42 i0 (.agg #[.int .i64 0, .int .i64 0]) 2 16 Tryd.underlying22 hi0 hz0 hz1 hz2 rfl (by decide) _ 0 [] (by simp [Act.eval]) (own_new0 _ (heap_d2 w8 _ _) (by first | omega | (simp; omega) | (simp; done))) ⟨lb, loff, none⟩ l.length cap (encL l) (by simp [Act.eval]) (encL_length l) (ivrow_cells (hr8.below (Nat.le_refl _) (by ((repeat' (first | exact Below.refl _ _ | exact hRW | refine Below.alloc ?_ ?_ _ | refine Below.setCell ?_ ?_ _ | refine Below.drew ?_ | refine below_drewN ?_ _ | refine Below.trans ?_ (hRW.mono ?_))) <;> (first | omega | (simp; done) | (simp; omega)))))) (encL_one l) (by unfold maxLen; omega) (by omega) (by first | omega | (simp; omega) | (simp; done)) ?_; intro v1 X1 hown1 hg1; have hR1 : Below (w.heap.size + 1) w8 X1 := Below.grown (by ((repeat' (first | exact Below.refl _ _ | exact hRW | refine Below.alloc ?_ ?_ _ | refine Below.setCell ?_ ?_ _ | refine Below.drew ?_ | refine below_drewN ?_ _ | refine Below.trans ?_ (hRW.mono ?_))) <;> (first | omega | (simp; done) | (simp; omega)))) hg1 (by first | omega | (simp; omega) | (simp; done)) (by intro k hk; simp [Value.ownBlock] at hk; omega); have q0 := (hR1.cell (p := ⟨w.heap.size, 0, none⟩) (Nat.lt_succ_self _)).trans c80; have q1 := (hR1.cell (p := ⟨w.heap.size, 1, none⟩) (Nat.lt_succ_self _)).trans c81; have zR := hR1.size; have zX := Nat.lt_of_lt_of_le hWl zR; have zg := hg1.size; simp only [World.size_alloc, World.size_drew] at zg; obtain ⟨cO, _⟩ := grown_keeps hg1 (b := w8.heap.size + 1) (by simp) (by simp [Value.ownBlock]); have pc0 : X1.cell? ⟨w8.heap.size + 1, 0, none⟩ = some (.int .i64 pa) := (cO 0).trans (by simp [go_sem]); have pc1 : X1.cell? ⟨w8.heap.size + 1, 1, none⟩ = some (.int .i64 pb) := (cO 1).trans (by simp [go_sem]); clear cO) | (refine step_append_own rfl (.tmp 76) (.tmp 77) 22 rfl (w.heap.size + 1) 42 i0 (.agg #[.int .i64 0, .int .i64 0]) 2 16 Tryd.underlying22 hi0 hz0 hz1 hz2 rfl (by decide) _ 0 [] (by simp [Act.eval]) (own_new0 _ (heap_d3 w8 _ _) (by first | omega | (simp; omega) | (simp; done))) ⟨lb, loff, none⟩ l.length cap (encL l) (by simp [Act.eval]) (encL_length l) (ivrow_cells (hr8.below (Nat.le_refl _) (by ((repeat' (first | exact Below.refl _ _ | exact hRW | refine Below.alloc ?_ ?_ _ | refine Below.setCell ?_ ?_ _ | refine Below.drew ?_ | refine below_drewN ?_ _ | refine Below.trans ?_ (hRW.mono ?_))) <;> (first | omega | (simp; done) | (simp; omega)))))) (encL_one l) (by unfold maxLen; omega) (by omega) (by first | omega | (simp; omega) | (simp; done)) ?_; intro v1 X1 hown1 hg1; have hR1 : Below (w.heap.size + 1) w8 X1 := Below.grown (by ((repeat' (first | exact Below.refl _ _ | exact hRW | refine Below.alloc ?_ ?_ _ | refine Below.setCell ?_ ?_ _ | refine Below.drew ?_ | refine below_drewN ?_ _ | refine Below.trans ?_ (hRW.mono ?_))) <;> (first | omega | (simp; done) | (simp; omega)))) hg1 (by first | omega | (simp; omega) | (simp; done)) (by intro k hk; simp [Value.ownBlock] at hk; omega); have q0 := (hR1.cell (p := ⟨w.heap.size, 0, none⟩) (Nat.lt_succ_self _)).trans c80; have q1 := (hR1.cell (p := ⟨w.heap.size, 1, none⟩) (Nat.lt_succ_self _)).trans c81; have zR := hR1.size; have zX := Nat.lt_of_lt_of_le hWl zR; have zg := hg1.size; simp only [World.size_alloc, World.size_drew] at zg; obtain ⟨cO, _⟩ := grown_keeps hg1 (b := w8.heap.size) (by first | omega | (simp; omega) | (simp; done)) (by simp [Value.ownBlock]); have pc0 : X1.cell? ⟨w8.heap.size, 0, none⟩ = some (.int .i64 pa) := (cO 0).trans (by simp [go_sem]); have pc1 : X1.cell? ⟨w8.heap.size, 1, none⟩ = some (.int .i64 pb) := (cO 1).trans (by simp [go_sem]); clear cO) | (refine step_append_own rfl (.tmp 78) (.tmp 80) 22 rfl (w.heap.size + 1) 42 i0 (.agg #[.int .i64 0, .int .i64 0]) 2 16 Tryd.underlying22 hi0 hz0 hz1 hz2 rfl (by decide) _ (0 + l.length) ([] ++ encL l) (by simp [Act.eval]) hown1 _ 1 1 [.int .i64 pa, .int .i64 pb] (by simp [Act.eval]) rfl (two_cells pc0 pc1) (by simp [Value.oneCell']) (by unfold maxLen; omega) (by omega) (by first | omega | (simp; omega) | (simp; done)) ?_; intro v2 X2 hown2 hg2; have hR2 : Below (w.heap.size + 1) w8 X2 := Below.grown (by ((repeat' (first | exact Below.refl _ _ | exact hR1 | refine Below.alloc ?_ ?_ _ | refine Below.setCell ?_ ?_ _ | refine Below.drew ?_ | refine below_drewN ?_ _ | refine Below.trans ?_ (hR1.mono ?_))) <;> (first | omega | (simp; done) | (simp; omega)))) hg2 (by first | omega | (simp; omega) | (simp; done)) (by intro k hk; have := (hown1.lt k hk).1; omega)) | (refine step_append_own rfl (.tmp 78) (.tmp 80) 22 rfl (w.heap.size + 1) 42 i0 (.agg #[.int .i64 0, .int .i64 0]) 2 16 Tryd.underlying22 hi0 hz0 hz1 hz2 rfl (by decide) _ (0 + l.length) ([] ++ encL l) (by simp [Act.eval]) (World.ownsRow.alloc hown1 _) ⟨X1.heap.size, 0, none⟩ 1 1 [.int .i64 pa, .int .i64 pb] (by simp [Act.eval]) rfl (cell_two_new _ _ _ _) (by simp [Value.oneCell']) (by unfold maxLen; omega) (by omega) (by first | omega | (simp; omega) | (simp; done)) ?_; intro v2 X2 hown2 hg2; have hR2 : Below (w.heap.size + 1) w8 X2 := Below.grown (by ((repeat' (first | exact Below.refl _ _ | exact hR1 | refine Below.alloc ?_ ?_ _ | refine Below.setCell ?_ ?_ _ | refine Below.drew ?_ | refine below_drewN ?_ _ | refine Below.trans ?_ (hR1.mono ?_))) <;> (first | omega | (simp; done) | (simp; omega)))) hg2 (by first | omega | (simp; omega) | (simp; done)) (by intro k hk; have := (hown1.lt k hk).1; omega)) | (refine step_call1 rfl (.tmp 81) 10 #[22] rfl _ (by simp [Act.eval]; rfl) (enters_of Tryd.func10 (by kernel_rfl) rfl) (Least_any _ (l ++ [(pa, pb)]) _ (OwnP.app (by simpa using hown2)).row) ?_; rintro e wq ⟨rfl, bq⟩; refine ⟨_, rfl, ?_⟩))
          all_goals go_wp2_with fail
          all_goals go_meet
          all_goals exact ⟨by first | rfl | rw [hla], by first | rfl | rw [hea], BW8.trans ((hR2.trans (bq.mono (Nat.le_trans (Nat.le_of_lt z8) hR2.size))).mono (by omega))⟩
        case rest =>
          obtain ⟨rfl, rfl, hB9⟩ := hcut
          obtain ⟨hb0, hb1, _⟩ := hbd.out
          have hlaw' : lst lm ≤ lst l := hlaw
          clear c80 c81 hr8 hRW
          rcases hmore.out with hq | hq
          · have hq1 : (lst (l ++ [(pa, pb)]) == lst l) = true := by rw [beq_iff_eq]; exact hq
            go_wp2_with fail
            go_ret
            exact ⟨by first | rfl | simp, hB9⟩
          · have hq1 : (lst (l ++ [(pa, pb)]) == lst l) = false := by rw [beq_eq_false_iff_ne]; omega
            have hw : IntKind.i64.wrap (lst l + 1) = lst l + 1 := IntWalk.i64_in _ (by omega)
            have hq2 : (lst (l ++ [(pa, pb)]) == lst l + 1) = true := by rw [beq_iff_eq]; exact hq
            go_wp2_with fail
            go_ret
            exact ⟨by first | rfl | simp, hB9⟩
theorem longer_walk2 (w : World) (hT : TabAt 0 Lib.deBruijn32tab w) (v : Value) (l : List Iv) (hv : IvRow w v l) (m : Int) (hm : 0 ≤ m ∧ m ≤ 255) (le : Int) (hle : 0 ≤ le ∧ le ≤ 65535) (ri : Int) (hri : 0 ≤ ri ∧ ri ≤ 65535) (pa pb : Int) :
    Calls Tryd.prog 8 #[v, .int .u8 m, .int .u16 le, .int .u16 ri, .agg #[.int .i64 pa, .int .i64 pb]] w fun e w' => e = .returned (.bool true) ∧ Below w.heap.size w w' := by
  obtain ⟨n, rfl⟩ := Int.eq_ofNat_of_zero_le hm.1
  exact longer_walk w hT v l hv n (by omega) le ri hle hri pa pb
set_option maxRecDepth 100000 in
theorem outlierLonger_row : Rows.OutlierLongerSaid :=
  OpenClaim.holds_of_wide 8 Tryd.f8 rfl rfl rfl rfl rfl rfl rfl ⟨rfl, rfl, rfl, rfl, rfl⟩ rfl rfl rfl rfl rfl (by kernel_rfl) Tryd.func8 (by kernel_rfl)
    (of_decide_eq_true (by kernel_rfl)) (by unfold Func.isWrapper; rw [if_neg (of_decide_eq_false (by kernel_rfl))]; exact ⟨rfl, rfl⟩)
    (fun os started H enc _ => law_liftedT started 8 Tryd.f8 Tryd.func8 (by kernel_rfl) Rows.outlierLongerSpec rfl rfl
      (fun ds h => by match ds, h with | [_, _, _, _, _], _ => exact ⟨rfl, rfl, rfl⟩)
      (fun t h => by
        rw [Tryd.params8] at h
        simp only [List.mem_cons, List.not_mem_nil, or_false] at h
        rcases h with rfl | rfl | rfl | rfl | rfl <;> exact ⟨by kernel_rfl, of_decide_eq_true (by kernel_rfl)⟩)
      (ChangeSpec.witness_shaped (enc := enc) (C := Tryd.checked) (os := os) (X := fun w _ => laidMetH Tryd.prog laidT w) false (World.doorLaid Tryd.prog 400 os) #[.slice none 0 0, .int .u8 0, .int .u16 0, .int .u16 0, .agg #[.int .i64 0, .int .i64 0]] 8 rfl (World.shaped_of_RefB (by kernel_rfl) (by kernel_rfl)) (by kernel_rfl) (by kernel_rfl) (by kernel_rfl) (door_met os _))
      (fun W base args ds p hT hA hok => by
        rw [Tryd.params8] at hA hok
        obtain ⟨v0, vs0, d0, ds0, p0, q0, hargs, rfl, rfl, h0, r0⟩ := ChangeShapes.trodAll_cons hA
        obtain ⟨v1, vs1, d1, ds1, p1, q1, rfl, rfl, rfl, h1, r1⟩ := ChangeShapes.trodAll_cons r0
        obtain ⟨v2, vs2, d2, ds2, p2, q2, rfl, rfl, rfl, h2, r2⟩ := ChangeShapes.trodAll_cons r1
        obtain ⟨v3, vs3, d3, ds3, p3, q3, rfl, rfl, rfl, h3, r3⟩ := ChangeShapes.trodAll_cons r2
        obtain ⟨v4, vs4, d4, ds4, p4, q4, rfl, rfl, rfl, h4, r4⟩ := ChangeShapes.trodAll_cons r3
        obtain ⟨rfl, rfl, rfl⟩ := ChangeShapes.trodAll_nil r4
        obtain rfl : args = #[v0, v1, v2, v3, v4] := by rw [← Array.toArray_toList (xs := args), hargs]
        obtain ⟨l0, hl0, wl0⟩ := open_ivs (hok 0 _ v0 rfl rfl) h0
        obtain ⟨x1, rfl, hx1⟩ := open_u8 Tryd.underlying5 (hok 1 _ v1 rfl rfl) h1
        obtain ⟨x2, rfl, hx2⟩ := open_u16 Tryd.underlying38 (hok 2 _ v2 rfl rfl) h2
        obtain ⟨x3, rfl, hx3⟩ := open_u16 Tryd.underlying38 (hok 3 _ v3 rfl rfl) h3
        obtain ⟨a4, b4, rfl, ha4, hb4⟩ := open_iv (hok 4 _ v4 rfl rfl) h4
        exact longer_walk2 W hT v0 l0 hl0 x1 hx1 x2 hx2 x3 hx3 a4 b4))
set_option maxRecDepth 100000 in
theorem outlierLonger_holds : Rows.OutlierLongerCardSaid :=
  Claim7.holds_tied_plain_at .later [] [.data] true _ false outlierLonger_row (fun _ h => by cases h) (by kernel_rfl) (fun _ h => by cases h) outlierLonger_row_tie rfl ⟨rfl, rfl⟩ (by kernel_rfl) rfl
    (fun f fn hf hfn => by
      obtain rfl : f = 8 := Option.some.inj ((show Tryd.prog.funcNamed Rows.outlierLongerRow.func = some 8 by kernel_rfl).symm.trans hf) |>.symm
      obtain rfl : fn = Tryd.f8 := (Option.some.inj (Tryd.func8.symm.trans hfn)).symm
      refine ⟨by kernel_rfl, fun j t ht => ?_⟩
      have hm := Array.mem_of_getElem? ht
      have key : (Tryd.f8).params.all (fun t => !Tryd.prog.wantsStandIn t) = true := by kernel_rfl
      have := Array.all_eq_true_iff_forall_mem.1 key t hm
      exact (by simpa using this : Tryd.prog.wantsStandIn t = false))
    (by kernel_rfl)
end Go.Proofs.YtodkmbjhdckjiaaDoor
