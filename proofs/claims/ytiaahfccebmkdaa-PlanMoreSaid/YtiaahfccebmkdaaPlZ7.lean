/- PlanMore: for all arguments the statement answers true and leaves its arguments as they were. No condition. -/
import Derived.Test.YtiaahfccebmkdaaPlR
import Derived.Test.YtiaahfccebmkdaaPlQ
import Derived.Deep.DeepCutAuto
import Derived.OwnWalk
import Derived.Test.YtiaahfccebmkdaaFg
import Derived.Test.YtiaahfccebmkdaaFs
namespace Go.Proofs.Ytiaahfccebmkdaa
open Go.RowKit

theorem us_ck {s : Si} {pl : List Int} (h : usB s pl = true) : ckE s pl = 0 := by
  have h1 := of_decide_eq_true h
  unfold ckE
  rw [if_pos ⟨h1.2.2.1, h1.2.2.2⟩, if_pos (by omega)]
theorem own_newI {w : World} {base q : Nat} (hh : w.heap[q]? = some (.cells #[] 3)) (h : base ≤ q) : OwnIs w base (.slice (some ⟨q, 0, none⟩) 0 0) [] :=
  ⟨rfl, .inr ⟨q, 0, #[], rfl, h, hh, Nat.le_refl _, Nat.zero_le _, rfl, rfl⟩⟩
theorem isrow_cells {w : World} {b off n cap : Nat} {l : List Int} (h : IsRow w (.slice (some ⟨b, off, none⟩) n cap) l) : ∀ j u, (encI l)[j]? = some u → w.cell? ((⟨b, off, none⟩ : Addr).add j) = some u := by
  obtain ⟨a, cap', e, h1, h2, h3⟩ := h
  cases e
  intro j u hj
  have hjl : j < l.length := by rw [← encI_length]; exact (List.getElem?_eq_some_iff.1 hj).1
  obtain ⟨b', off', e, _, h5⟩ := h3 j hjl
  cases e
  rw [encI_at l j hjl] at hj
  cases hj
  rw [Go.WideShapes.add_plain]
  exact h5
/-- What the loop of a further period needs. -/
theorem more_some {s : Si} {pl : List Int} {x y : Int} {a : Of} (hck : ckE s pl = 0) (hx : 0 ≤ x) (hxy : x ≤ y) (hy : y ≤ 3000000000000000) (h : bsO s pl x = some a) : ∃ b, bsO s pl y = some b ∧ rgB s a.use a.ev = true ∧ rgB s b.use b.ev = true ∧ ¬ cmpS s.ps a.use a.ev b.use b.ev < 0 := by
  obtain ⟨e0, ha, -, -⟩ := bsO_some h
  obtain ⟨a1, a2, -⟩ := bst_some ha
  have hE : bsE s pl y = 0 := by unfold bsE; rw [if_pos ⟨by omega, hy⟩]; exact hck
  have hb : bsO s pl y = bstO false s pl y := by unfold bsO; rw [if_pos hE]
  rw [hb]
  cases hB : bstO false s pl y with
  | none => have := bst_no hB a a1; omega
  | some b =>
    obtain ⟨b1, b2, b3⟩ := bst_some hB
    have hl := b3 a a1 (by omega)
    have f := cmpC_flip s.ps b a
    have e3 : cmpC s.ps a b = cmpS s.ps a.use a.ev b.use b.ev := rfl
    refine ⟨b, rfl, (ofL_v a1).2.1, (ofL_v b1).2.1, ?_⟩
    rcases hl with h | ⟨h, -⟩
    · have : cmpC s.ps b a < 0 := h; omega
    · have : cmpC s.ps b a = 0 := h; omega
theorem longer_some {s : Si} {pl : List Int} {x p : Int} {a : Of} (hck : ckE s (pl ++ [p]) = 0) (h : bsO s pl x = some a) : bsE s (pl ++ [p]) x = 0 ∧ ∃ d, bsO s (pl ++ [p]) x = some d ∧ rgB s a.use a.ev = true ∧ rgB s d.use d.ev = true ∧ ¬ cmpS s.ps a.use a.ev d.use d.ev < 0 := by
  obtain ⟨e0, ha, hx, -⟩ := bsO_some h
  obtain ⟨a1, a2, -⟩ := bst_some ha
  have hE : bsE s (pl ++ [p]) x = 0 := by unfold bsE; rw [if_pos hx]; exact hck
  have hb : bsO s (pl ++ [p]) x = bstO false s (pl ++ [p]) x := by unfold bsO; rw [if_pos hE]
  refine ⟨hE, ?_⟩
  rw [hb]
  cases hB : bstO false s (pl ++ [p]) x with
  | none => have := bst_no hB a (ofL_more a1); omega
  | some b =>
    obtain ⟨b1, b2, b3⟩ := bst_some hB
    have hl := b3 a (ofL_more a1) a2
    have f := cmpC_flip s.ps b a
    have e3 : cmpC s.ps a b = cmpS s.ps a.use a.ev b.use b.ev := rfl
    refine ⟨b, rfl, (ofL_v a1).2.1, (ofL_v b1).2.1, ?_⟩
    rcases hl with h | ⟨h, -⟩
    · have : cmpC s.ps b a < 0 := h; omega
    · have : cmpC s.ps b a = 0 := h; omega
theorem narrow_best {s : Si} {pl : List Int} {n : Of} (hn : nwO s pl = some n) (hle : n.wd ≤ 3000000000000000) : bsE s pl n.wd = 0 ∧ ∃ c, bsO s pl n.wd = some c ∧ rgB s c.use c.ev = true ∧ wdt s c.use c.ev = n.wd := by
  unfold nwO at hn
  split at hn
  · rename_i hck
    obtain ⟨n1, n2, n3⟩ := bst_some hn
    have nv := ofL_v n1
    have nb := wdt_bd nv.2.1
    rw [← nv.2.2.1] at nb
    have hE : bsE s pl n.wd = 0 := by unfold bsE; rw [if_pos ⟨by omega, hle⟩]; exact hck
    have hb : bsO s pl n.wd = bstO false s pl n.wd := by unfold bsO; rw [if_pos hE]
    refine ⟨hE, ?_⟩
    rw [hb]
    cases hB : bstO false s pl n.wd with
    | none => have := bst_no hB n n1; omega
    | some c =>
      obtain ⟨c1', c2', -⟩ := bst_some hB
      have cv := ofL_v c1'
      have cb := wdt_bd cv.2.1
      have hl := n3 c c1' (by rw [cv.2.2.1]; omega)
      have hc : cmpW n c ≤ 0 := by
        rcases hl with h | h
        · have : cmpW n c < 0 := h; omega
        · have : cmpW n c = 0 := h.1; omega
      have hw : n.wd ≤ c.wd := by unfold cmpW at hc; rw [cmpInt_le] at hc; exact hc
      exact ⟨c, rfl, cv.2.1, by rw [← cv.2.2.1]; omega⟩
  · cases hn
set_option maxRecDepth 100000 in
set_option maxHeartbeats 4000000 in
theorem PlMore_any (w : World) (v0 : Value) (s : SiA) (hs : SiOk w v0 s) (v : Value) (pl : List Int) (hv : IsRow w v pl) (_wl : WfI pl) (x y p : Int) :
    Calls Try.prog 8 #[v0, v, .int .i64 x, .int .i64 y, .int .i64 p] w fun e w' => e = .returned (.bool true) ∧ Below w.heap.size w w' := by
  obtain ⟨r, f, lo, tm, pv, ps⟩ := s
  obtain ⟨rfl, hp, -, -⟩ := hs
  simp only at hp ⊢
  obtain ⟨pa, pc, rfl, -, -⟩ := hp.len
  obtain ⟨va, vc, rfl, -, -, -⟩ := id hv
  obtain ⟨W0, hW0⟩ : ∃ W : World, W = w.alloc (.cells #[.int .i64 r, .int .i64 f, .int .i64 lo, .int .i64 tm, .slice pa ps.length pc] 24) := ⟨_, rfl⟩
  have hS : ∀ V : World, Below (w.heap.size + 1) W0 V → (V.cell? ⟨w.heap.size, 0, none⟩ = some (.int .i64 r) ∧ V.cell? ⟨w.heap.size, 1, none⟩ = some (.int .i64 f) ∧ V.cell? ⟨w.heap.size, 2, none⟩ = some (.int .i64 lo) ∧ V.cell? ⟨w.heap.size, 3, none⟩ = some (.int .i64 tm) ∧ V.cell? ⟨w.heap.size, 4, none⟩ = some (.slice pa ps.length pc)) ∧ PrRow V (.slice pa ps.length pc) ps ∧ IsRow V (.slice va pl.length vc) pl ∧ Below w.heap.size w V ∧ w.heap.size + 1 ≤ V.heap.size := by
    intro V hV
    have bW : Below w.heap.size w W0 := by rw [hW0]; ((repeat' (first | with_reducible exact Below.refl _ _ | with_reducible refine Below.alloc ?_ ?_ _ | with_reducible refine Below.setCell ?_ ?_ _ | with_reducible refine Below.drew ?_ | with_reducible refine below_drewN ?_ _)) <;> (first | omega | (simp; done) | (simp; omega)))
    have zW : W0.heap.size = w.heap.size + 1 := by rw [hW0]; simp
    have hb := bW.trans (hV.mono (by omega))
    have h0 := (bk hV w.heap.size (by omega)).1
    exact ⟨⟨(h0 0).trans (by rw [hW0]; simp), (h0 1).trans (by rw [hW0]; simp), (h0 2).trans (by rw [hW0]; simp), (h0 3).trans (by rw [hW0]; simp), (h0 4).trans (by rw [hW0]; simp)⟩, hp.below (Nat.le_refl _) hb, hv.below (Nat.le_refl _) hb, hb, by have := hV.size; omega⟩
  have HS := hide hS
  clear hS hp hv
  obtain ⟨i0, hi0, hz0, hz1, hz2⟩ := info_parts infoIs
  cases hU : usB ⟨r, f, lo, tm, ps⟩ pl with
  | false =>
    go_enter Try.func8, Try.ntmps8
    go_upto_region 1 with fail
    rw [← hW0]
    clear hW0
    have B0 : Below (w.heap.size + 1) W0 W0 := Below.refl _ _
    obtain ⟨⟨y0, y1, y2, y3, y4⟩, -, -, -, yz⟩ := HS.out W0 B0
    have yq := Nat.lt_of_succ_le yz
    go_wp2_with fail
    refine (plHead_any _).mono ?_
    rintro e w1 ⟨rfl, b1⟩
    have B1 : Below (w.heap.size + 1) W0 w1 := B0.trans (b1.mono (HS.out _ B0).2.2.2.2)
    clear y0 y1 y2 y3 y4 yz yq b1 B0
    obtain ⟨⟨y0, y1, y2, y3, y4⟩, -, -, -, yz⟩ := HS.out w1 B1
    have yq := Nat.lt_of_succ_le yz
    go_wp2_with fail
    refine (usable_any r f lo tm _ ps _ pl _ (HS.out _ B1).2.1 (HS.out _ B1).2.2.1).mono ?_
    rintro e w2 ⟨rfl, b2⟩
    rw [hU]
    have B2 : Below (w.heap.size + 1) W0 w2 := B1.trans (b2.mono (HS.out _ B1).2.2.2.2)
    clear y0 y1 y2 y3 y4 yz yq b2 B1
    obtain ⟨⟨y0, y1, y2, y3, y4⟩, -, -, -, yz⟩ := HS.out w2 B2
    have yq := Nat.lt_of_succ_le yz
    go_wp2_with fail
    go_ret
    exact ⟨rfl, (HS.out _ B2).2.2.2.1⟩
  | true =>
    by_cases hx0 : x < 0
    · have d1 : decide (x < 0) = true := decide_eq_true hx0
      clear hx0
      go_enter Try.func8, Try.ntmps8
      go_upto_region 1 with fail
      rw [← hW0]
      clear hW0
      have B0 : Below (w.heap.size + 1) W0 W0 := Below.refl _ _
      obtain ⟨⟨y0, y1, y2, y3, y4⟩, -, -, -, yz⟩ := HS.out W0 B0
      have yq := Nat.lt_of_succ_le yz
      go_wp2_with fail
      refine (plHead_any _).mono ?_
      rintro e w1 ⟨rfl, b1⟩
      have B1 : Below (w.heap.size + 1) W0 w1 := B0.trans (b1.mono (HS.out _ B0).2.2.2.2)
      clear y0 y1 y2 y3 y4 yz yq b1 B0
      obtain ⟨⟨y0, y1, y2, y3, y4⟩, -, -, -, yz⟩ := HS.out w1 B1
      have yq := Nat.lt_of_succ_le yz
      go_wp2_with fail
      refine (usable_any r f lo tm _ ps _ pl _ (HS.out _ B1).2.1 (HS.out _ B1).2.2.1).mono ?_
      rintro e w2 ⟨rfl, b2⟩
      rw [hU]
      have B2 : Below (w.heap.size + 1) W0 w2 := B1.trans (b2.mono (HS.out _ B1).2.2.2.2)
      clear y0 y1 y2 y3 y4 yz yq b2 B1
      obtain ⟨⟨y0, y1, y2, y3, y4⟩, -, -, -, yz⟩ := HS.out w2 B2
      have yq := Nat.lt_of_succ_le yz
      go_wp2_with fail
      go_ret
      exact ⟨rfl, (HS.out _ B2).2.2.2.1⟩
    by_cases hxy : y < x
    · have d1 : decide (x < 0) = false := decide_eq_false hx0
      have d2 : decide (y < x) = true := decide_eq_true hxy
      clear hx0 hxy
      go_enter Try.func8, Try.ntmps8
      go_upto_region 1 with fail
      rw [← hW0]
      clear hW0
      have B0 : Below (w.heap.size + 1) W0 W0 := Below.refl _ _
      obtain ⟨⟨y0, y1, y2, y3, y4⟩, -, -, -, yz⟩ := HS.out W0 B0
      have yq := Nat.lt_of_succ_le yz
      go_wp2_with fail
      refine (plHead_any _).mono ?_
      rintro e w1 ⟨rfl, b1⟩
      have B1 : Below (w.heap.size + 1) W0 w1 := B0.trans (b1.mono (HS.out _ B0).2.2.2.2)
      clear y0 y1 y2 y3 y4 yz yq b1 B0
      obtain ⟨⟨y0, y1, y2, y3, y4⟩, -, -, -, yz⟩ := HS.out w1 B1
      have yq := Nat.lt_of_succ_le yz
      go_wp2_with fail
      refine (usable_any r f lo tm _ ps _ pl _ (HS.out _ B1).2.1 (HS.out _ B1).2.2.1).mono ?_
      rintro e w2 ⟨rfl, b2⟩
      rw [hU]
      have B2 : Below (w.heap.size + 1) W0 w2 := B1.trans (b2.mono (HS.out _ B1).2.2.2.2)
      clear y0 y1 y2 y3 y4 yz yq b2 B1
      obtain ⟨⟨y0, y1, y2, y3, y4⟩, -, -, -, yz⟩ := HS.out w2 B2
      have yq := Nat.lt_of_succ_le yz
      go_wp2_with fail
      go_ret
      exact ⟨rfl, (HS.out _ B2).2.2.2.1⟩
    by_cases hy : 3000000000000000 < y
    · have d1 : decide (x < 0) = false := decide_eq_false hx0
      have d2 : decide (y < x) = false := decide_eq_false hxy
      have d3 : decide (3000000000000000 < y) = true := decide_eq_true hy
      clear hx0 hxy hy
      go_enter Try.func8, Try.ntmps8
      go_upto_region 1 with fail
      rw [← hW0]
      clear hW0
      have B0 : Below (w.heap.size + 1) W0 W0 := Below.refl _ _
      obtain ⟨⟨y0, y1, y2, y3, y4⟩, -, -, -, yz⟩ := HS.out W0 B0
      have yq := Nat.lt_of_succ_le yz
      go_wp2_with fail
      refine (plHead_any _).mono ?_
      rintro e w1 ⟨rfl, b1⟩
      have B1 : Below (w.heap.size + 1) W0 w1 := B0.trans (b1.mono (HS.out _ B0).2.2.2.2)
      clear y0 y1 y2 y3 y4 yz yq b1 B0
      obtain ⟨⟨y0, y1, y2, y3, y4⟩, -, -, -, yz⟩ := HS.out w1 B1
      have yq := Nat.lt_of_succ_le yz
      go_wp2_with fail
      refine (usable_any r f lo tm _ ps _ pl _ (HS.out _ B1).2.1 (HS.out _ B1).2.2.1).mono ?_
      rintro e w2 ⟨rfl, b2⟩
      rw [hU]
      have B2 : Below (w.heap.size + 1) W0 w2 := B1.trans (b2.mono (HS.out _ B1).2.2.2.2)
      clear y0 y1 y2 y3 y4 yz yq b2 B1
      obtain ⟨⟨y0, y1, y2, y3, y4⟩, -, -, -, yz⟩ := HS.out w2 B2
      have yq := Nat.lt_of_succ_le yz
      go_wp2_with fail
      go_ret
      exact ⟨rfl, (HS.out _ B2).2.2.2.1⟩
    have dx1 : decide (x < 0) = false := decide_eq_false hx0
    have dx2 : decide (y < x) = false := decide_eq_false hxy
    have dx3 : decide (3000000000000000 < y) = false := decide_eq_false hy
    have hck := us_ck hU
    have hEx : bsE ⟨r, f, lo, tm, ps⟩ pl x = 0 := by unfold bsE; rw [if_pos (by omega)]; exact hck
    have hEy : bsE ⟨r, f, lo, tm, ps⟩ pl y = 0 := by unfold bsE; rw [if_pos (by omega)]; exact hck
    have hus := of_decide_eq_true hU
    simp only at hus
    have hsi := hus.2.2.1
    have hp7 : ps.length ≤ 7 := hus.1
    have hp4 : pl.length ≤ 4 := hus.2.1
    have hpl : 1 ≤ pl.length := by
      have := hus.2.2.2
      unfold prdB at this
      rw [Bool.and_eq_true, decide_eq_true_eq] at this
      exact this.2.1
    obtain ⟨b0, off, hb0⟩ : ∃ b off, va = some ⟨b, off, none⟩ := by
      obtain ⟨va', vc', hve, -, -, h3⟩ := (HS.out W0 (Below.refl _ _)).2.2.1
      cases hve
      obtain ⟨b, off, h, -⟩ := h3 0 (by omega)
      exact ⟨b, off, h⟩
    subst hb0
    have hmr := fun a => more_some (s := ⟨r, f, lo, tm, ps⟩) (pl := pl) (x := x) (y := y) (a := a) hck (by omega) (by omega) (by omega)
    have hckl : prdB tm (pl ++ [p]) = true → ckE ⟨r, f, lo, tm, ps⟩ (pl ++ [p]) = 0 := fun h => by unfold ckE; rw [if_pos ⟨hsi, h⟩, if_pos (by simp only; omega)]
    have Hus := hide hus
    clear hx0 hxy hy hck hus hsi
    obtain ⟨q, hq⟩ : ∃ q, q = (pl ++ [p]).length := ⟨_, rfl⟩
    obtain ⟨hql1, hql2⟩ : q ≤ pl.length + 1 ∧ pl.length + 1 ≤ q := by rw [hq]; simp
    have Hq := hide hq.symm
    clear hq
    have hck := us_ck hU
    have hnn : nwO ⟨r, f, lo, tm, ps⟩ pl = none → nwE ⟨r, f, lo, tm, ps⟩ pl = 20 := fun h => by unfold nwE; rw [if_pos hck, h]; rfl
    have hns : ∀ n, nwO ⟨r, f, lo, tm, ps⟩ pl = some n → nwE ⟨r, f, lo, tm, ps⟩ pl = 0 := fun n h => by unfold nwE; rw [if_pos hck, h]; rfl
    clear hck
    cases hA : bsO ⟨r, f, lo, tm, ps⟩ pl x with
    | none =>
      clear hmr hckl
      go_enter Try.func8, Try.ntmps8
      go_upto_region 1 with fail
      rw [← hW0]
      clear hW0
      have B0 : Below (w.heap.size + 1) W0 W0 := Below.refl _ _
      obtain ⟨⟨y0, y1, y2, y3, y4⟩, -, -, -, yz⟩ := HS.out W0 B0
      have yq := Nat.lt_of_succ_le yz
      go_wp2_with fail
      refine (plHead_any _).mono ?_
      rintro e w1 ⟨rfl, b1⟩
      have B1 : Below (w.heap.size + 1) W0 w1 := B0.trans (b1.mono (HS.out _ B0).2.2.2.2)
      clear y0 y1 y2 y3 y4 yz yq b1 B0
      obtain ⟨⟨y0, y1, y2, y3, y4⟩, -, -, -, yz⟩ := HS.out w1 B1
      have yq := Nat.lt_of_succ_le yz
      go_wp2_with fail
      refine (usable_any r f lo tm _ ps _ pl _ (HS.out _ B1).2.1 (HS.out _ B1).2.2.1).mono ?_
      rintro e w2 ⟨rfl, b2⟩
      rw [hU]
      have B2 : Below (w.heap.size + 1) W0 w2 := B1.trans (b2.mono (HS.out _ B1).2.2.2.2)
      clear y0 y1 y2 y3 y4 yz yq b2 B1
      obtain ⟨⟨y0, y1, y2, y3, y4⟩, -, -, -, yz⟩ := HS.out w2 B2
      have yq := Nat.lt_of_succ_le yz
      go_wp2_with fail
      refine (plB_any r f lo tm _ ps _ pl x _ (HS.out _ B2).2.1 (HS.out _ B2).2.2.1).mono ?_
      rintro e w3 ⟨uva, rfl, hrowa, howna, b3⟩
      rw [hA, hEx]
      have B3 : Below (w.heap.size + 1) W0 w3 := B2.trans (b3.mono (HS.out _ B2).2.2.2.2)
      rw [hA] at hrowa
      obtain ⟨ua, uca, huva, -⟩ := id hrowa
      subst huva
      clear howna
      generalize (accO none).ev = EA at *
      generalize (accO none).use = UA at *
      simp only [Option.isSome_none]
      clear y0 y1 y2 y3 y4 yz yq b3 B2
      obtain ⟨⟨y0, y1, y2, y3, y4⟩, -, -, -, yz⟩ := HS.out w3 B3
      have yq := Nat.lt_of_succ_le yz
      go_wp2_with fail
      have ka : BxS (w3.alloc (.cells #[.slice ua UA.length uca, .int .i64 EA] 29)) w3.heap.size (.slice ua UA.length uca) UA EA := BxS.made hrowa
      have b4 : Below w3.heap.size w3 (w3.alloc (.cells #[.slice ua UA.length uca, .int .i64 EA] 29)) := (by ((repeat' (first | with_reducible exact Below.refl _ _ | with_reducible refine Below.alloc ?_ ?_ _ | with_reducible refine Below.setCell ?_ ?_ _ | with_reducible refine Below.drew ?_ | with_reducible refine below_drewN ?_ _)) <;> (first | omega | (simp; done) | (simp; omega))))
      have B4 : Below (w.heap.size + 1) W0 (w3.alloc (.cells #[.slice ua UA.length uca, .int .i64 EA] 29)) := B3.trans (b4.mono (HS.out _ B3).2.2.2.2)
      obtain ⟨gka, hgka⟩ : ∃ g, g = w3.heap.size := ⟨_, rfl⟩
      rw [← hgka] at ka ⊢
      clear hgka b4 y0 y1 y2 y3 y4 yz yq B3
      generalize w3.alloc (.cells #[.slice ua UA.length uca, .int .i64 EA] 29) = w4 at *
      obtain ⟨⟨y0, y1, y2, y3, y4⟩, -, -, -, yz⟩ := HS.out w4 B4
      have yq := Nat.lt_of_succ_le yz
      refine (plB_any r f lo tm _ ps _ pl y _ (HS.out _ B4).2.1 (HS.out _ B4).2.2.1).mono ?_
      rintro e w5 ⟨uvb, rfl, hrowb, hownb, b5⟩
      rw [hEy]
      have B5 : Below (w.heap.size + 1) W0 w5 := B4.trans (b5.mono (HS.out _ B4).2.2.2.2)
      have tka := ka.below (Nat.le_refl _) b5
      clear ka
      have ka := tka
      clear tka
      obtain ⟨ub, ucb, huvb, -⟩ := id hrowb
      subst huvb
      clear hownb
      generalize (accO (bsO ⟨r, f, lo, tm, ps⟩ pl y)).ev = EB at *
      generalize (accO (bsO ⟨r, f, lo, tm, ps⟩ pl y)).use = UB at *
      generalize (bsO ⟨r, f, lo, tm, ps⟩ pl y).isSome = IB at *
      clear y0 y1 y2 y3 y4 yz yq b5 B4
      obtain ⟨⟨y0, y1, y2, y3, y4⟩, -, -, -, yz⟩ := HS.out w5 B5
      have yq := Nat.lt_of_succ_le yz
      go_upto_region 12 with fail
      have kb : BxS (w5.alloc (.cells #[.slice ub UB.length ucb, .int .i64 EB] 29)) w5.heap.size (.slice ub UB.length ucb) UB EB := BxS.made hrowb
      have b6 : Below w5.heap.size w5 (w5.alloc (.cells #[.slice ub UB.length ucb, .int .i64 EB] 29)) := (by ((repeat' (first | with_reducible exact Below.refl _ _ | with_reducible refine Below.alloc ?_ ?_ _ | with_reducible refine Below.setCell ?_ ?_ _ | with_reducible refine Below.drew ?_ | with_reducible refine below_drewN ?_ _)) <;> (first | omega | (simp; done) | (simp; omega))))
      have tka := ka.below (Nat.le_refl _) b6
      clear ka
      have ka := tka
      clear tka
      have B6 : Below (w.heap.size + 1) W0 (w5.alloc (.cells #[.slice ub UB.length ucb, .int .i64 EB] 29)) := B5.trans (b6.mono (HS.out _ B5).2.2.2.2)
      obtain ⟨gkb, hgkb⟩ : ∃ g, g = w5.heap.size := ⟨_, rfl⟩
      rw [← hgkb] at kb ⊢
      clear hgkb b6 y0 y1 y2 y3 y4 yz yq B5
      generalize w5.alloc (.cells #[.slice ub UB.length ucb, .int .i64 EB] 29) = w6 at *
      obtain ⟨⟨y0, y1, y2, y3, y4⟩, -, -, -, yz⟩ := HS.out w6 B6
      have yq := Nat.lt_of_succ_le yz
      by_cases hq4 : q ≤ 4
      · have dq1 : decide ((q : Int) ≤ 4) = true := decide_eq_true (by omega)
        have dq2 : decide (q ≤ 4) = true := decide_eq_true hq4
        have tok1 : True := trivial
        have pv0 := (HS.out _ B6).2.2.1
        have hWz : w6.heap.size ≤ w6.heap.size := Nat.le_refl _
        go_wp2_with (first
          | (at_builtin; have _t := tok1; clear tok1; refine wpList_append_own _ rfl _ _ 25 rfl w6.heap.size 3 i0 (.int .i64 0) 1 8 Try.underlying25 hi0 hz0 hz1 hz2 rfl (by decide) _ 0 [] rfl (own_newI (base := w6.heap.size) (World.alloc_heap_new w6 _) (Nat.le_refl _)) ⟨b0, off, none⟩ pl.length vc (encI pl) rfl (by rw [encI_length, Nat.mul_one]) (isrow_cells (pv0.below (Nat.le_refl _) ((Below.refl _ _).alloc (Nat.le_refl _) _))) (encI_one pl) (by unfold maxLen; omega) (by omega) (by simp) ?_; intro v3 u3 hown3 hg3 _; rw [Nat.zero_add, List.nil_append] at hown3; obtain ⟨a3, cap3, rfl⟩ := ownsRow_val hown3; have hz3 := hg3.size; simp only [World.size_alloc] at hz3; have D3 : Below w6.heap.size w6 u3 := ((Below.refl _ _).alloc (Nat.le_refl _) _).grown hg3 (by simp) (fun r h => by cases h; exact Nat.le_refl _); have hlo3 := World.ownsRow.lt hown3)
          | (at_builtin; refine wpList_append_own _ rfl _ _ 25 rfl w6.heap.size 3 i0 (.int .i64 0) 1 8 Try.underlying25 hi0 hz0 hz1 hz2 rfl (by decide) _ pl.length (encI pl) rfl (World.ownsRow.alloc hown3 _) ⟨u3.heap.size, 0, none⟩ 1 1 [.int .i64 p] rfl rfl (cells_new u3 [.int .i64 p] _) (by simp [Value.oneCell']) (by unfold maxLen; omega) (by omega) (by simp; omega) ?_; intro v4 u4 hown4 hg4 _; have hown5 : OwnIs u4 w6.heap.size v4 (pl ++ [p]) := OwnIs.app hown4; have kl := hown5.row; obtain ⟨a4, cap4, hv4, -, -⟩ := hown5.val; rw [Hq.out] at hv4; subst hv4; have D4 : Below w6.heap.size w6 u4 := (D3.alloc (by omega) _).grown hg4 (by simp; omega) (fun r h => (hlo3 r h).1); have Kl := hide kl; have D4h := hide D4; have B7 : Below (w.heap.size + 1) W0 u4 := B6.trans (D4.mono (HS.out _ B6).2.2.2.2); clear y0 y1 y2 y3 y4 yz yq hown3 hown4 hown5 hg3 hg4 kl D4 D3 hlo3 hz3; obtain ⟨⟨y0, y1, y2, y3, y4⟩, -, -, -, yz⟩ := HS.out u4 B7; have yq := Nat.lt_of_succ_le yz))
        have kl := Kl.out
        have tka := ka.below (Nat.le_refl _) D4h.out
        clear ka
        have ka := tka
        clear tka
        have tkb := kb.below (Nat.le_refl _) D4h.out
        clear kb
        have kb := tkb
        clear tkb
        clear Kl D4h pv0 hWz B6
        cases hP : prdB tm (pl ++ [p]) with
        | false =>
          refine (RPeriods_any r f lo tm _ (.slice a4 q cap4) (pl ++ [p]) _ kl).mono ?_
          rintro e w8 ⟨rfl, b8⟩
          rw [hP]
          have B8 : Below (w.heap.size + 1) W0 w8 := B7.trans (b8.mono (HS.out _ B7).2.2.2.2)
          have tka := ka.below (Nat.le_refl _) b8
          clear ka
          have ka := tka
          clear tka
          have tkb := kb.below (Nat.le_refl _) b8
          clear kb
          have kb := tkb
          clear tkb
          have tkl := kl.below (Nat.le_refl _) b8
          clear kl
          have kl := tkl
          clear tkl
          clear y0 y1 y2 y3 y4 yz yq b8 B7
          obtain ⟨⟨y0, y1, y2, y3, y4⟩, -, -, -, yz⟩ := HS.out w8 B8
          have yq := Nat.lt_of_succ_le yz
          go_wp2_with fail
          cases hN : nwO ⟨r, f, lo, tm, ps⟩ pl with
          | none =>
            refine (plN_any r f lo tm _ ps _ pl _ (HS.out _ B8).2.1 (HS.out _ B8).2.2.1).mono ?_
            rintro e w9 ⟨uvn, rfl, hrown, hownn, b9⟩
            rw [hN, hnn hN]
            have B9 : Below (w.heap.size + 1) W0 w9 := B8.trans (b9.mono (HS.out _ B8).2.2.2.2)
            have tka := ka.below (Nat.le_refl _) b9
            clear ka
            have ka := tka
            clear tka
            have tkb := kb.below (Nat.le_refl _) b9
            clear kb
            have kb := tkb
            clear tkb
            have tkl := kl.below (Nat.le_refl _) b9
            clear kl
            have kl := tkl
            clear tkl
            obtain ⟨un, ucn, huvn, -⟩ := id hrown
            subst huvn
            clear hownn
            generalize (accO none).wd = Nn at *
            generalize (accO none).ev = En at *
            generalize (accO none).use = Un at *
            clear y0 y1 y2 y3 y4 yz yq b9 B8
            obtain ⟨⟨y0, y1, y2, y3, y4⟩, -, -, -, yz⟩ := HS.out w9 B9
            have yq := Nat.lt_of_succ_le yz
            go_wp2_with fail
            go_ret
            exact ⟨rfl, (by ((repeat' (first | with_reducible exact Below.refl _ _ | with_reducible exact (HS.out _ B9).2.2.2.1 | with_reducible refine Below.alloc ?_ ?_ _ | with_reducible refine Below.setCell ?_ ?_ _ | with_reducible refine Below.drew ?_ | with_reducible refine below_drewN ?_ _ | with_reducible refine Below.trans ?_ ((HS.out _ B9).2.2.2.1.mono ?_))) <;> (first | omega | (simp; done) | (simp; omega))))⟩
          | some nb =>
            have hrw := hns nb hN
            by_cases hle : 3000000000000000 < nb.wd
            · have dle : decide (3000000000000000 < nb.wd) = true := decide_eq_true hle
              clear hle
              refine (plN_any r f lo tm _ ps _ pl _ (HS.out _ B8).2.1 (HS.out _ B8).2.2.1).mono ?_
              rintro e w9 ⟨uvn, rfl, hrown, hownn, b9⟩
              rw [hN, hrw]
              have B9 : Below (w.heap.size + 1) W0 w9 := B8.trans (b9.mono (HS.out _ B8).2.2.2.2)
              have tka := ka.below (Nat.le_refl _) b9
              clear ka
              have ka := tka
              clear tka
              have tkb := kb.below (Nat.le_refl _) b9
              clear kb
              have kb := tkb
              clear tkb
              have tkl := kl.below (Nat.le_refl _) b9
              clear kl
              have kl := tkl
              clear tkl
              rw [hN] at hrown
              simp only [accO, Option.getD_some] at hrown
              obtain ⟨un, ucn, huvn, -⟩ := id hrown
              subst huvn
              clear hownn
              clear y0 y1 y2 y3 y4 yz yq b9 B8
              obtain ⟨⟨y0, y1, y2, y3, y4⟩, -, -, -, yz⟩ := HS.out w9 B9
              have yq := Nat.lt_of_succ_le yz
              simp only [accO, Option.getD_some]
              go_wp2_with fail
              go_ret
              exact ⟨rfl, (by ((repeat' (first | with_reducible exact Below.refl _ _ | with_reducible exact (HS.out _ B9).2.2.2.1 | with_reducible refine Below.alloc ?_ ?_ _ | with_reducible refine Below.setCell ?_ ?_ _ | with_reducible refine Below.drew ?_ | with_reducible refine below_drewN ?_ _ | with_reducible refine Below.trans ?_ ((HS.out _ B9).2.2.2.1.mono ?_))) <;> (first | omega | (simp; done) | (simp; omega))))⟩
            have dle : decide (3000000000000000 < nb.wd) = false := decide_eq_false hle
            obtain ⟨eN, cb, hcb, cR, cW⟩ := narrow_best hN (by omega)
            have hqc := fun V (h1 : PrRow V (.slice pa ps.length pc) ps) uv (h2 : IsRow V uv cb.use) => wdWidthS_any r f lo tm _ ps uv cb.use cb.ev V h1 h2
            rw [wdEr_ok cR, cW] at hqc
            have Hqc := hide hqc
            clear hqc cR cW hle
            refine (plN_any r f lo tm _ ps _ pl _ (HS.out _ B8).2.1 (HS.out _ B8).2.2.1).mono ?_
            rintro e w9 ⟨uvn, rfl, hrown, hownn, b9⟩
            rw [hN, hrw]
            have B9 : Below (w.heap.size + 1) W0 w9 := B8.trans (b9.mono (HS.out _ B8).2.2.2.2)
            have tka := ka.below (Nat.le_refl _) b9
            clear ka
            have ka := tka
            clear tka
            have tkb := kb.below (Nat.le_refl _) b9
            clear kb
            have kb := tkb
            clear tkb
            have tkl := kl.below (Nat.le_refl _) b9
            clear kl
            have kl := tkl
            clear tkl
            rw [hN] at hrown
            simp only [accO, Option.getD_some] at hrown
            obtain ⟨un, ucn, huvn, -⟩ := id hrown
            subst huvn
            clear hownn
            clear y0 y1 y2 y3 y4 yz yq b9 B8
            obtain ⟨⟨y0, y1, y2, y3, y4⟩, -, -, -, yz⟩ := HS.out w9 B9
            have yq := Nat.lt_of_succ_le yz
            simp only [accO, Option.getD_some]
            go_wp2_with fail
            have kn : BxS (w9.alloc (.cells #[.slice un nb.use.length ucn, .int .i64 nb.ev] 29)) w9.heap.size (.slice un nb.use.length ucn) nb.use nb.ev := BxS.made hrown
            have b10 : Below w9.heap.size w9 (w9.alloc (.cells #[.slice un nb.use.length ucn, .int .i64 nb.ev] 29)) := (by ((repeat' (first | with_reducible exact Below.refl _ _ | with_reducible refine Below.alloc ?_ ?_ _ | with_reducible refine Below.setCell ?_ ?_ _ | with_reducible refine Below.drew ?_ | with_reducible refine below_drewN ?_ _)) <;> (first | omega | (simp; done) | (simp; omega))))
            have tka := ka.below (Nat.le_refl _) b10
            clear ka
            have ka := tka
            clear tka
            have tkb := kb.below (Nat.le_refl _) b10
            clear kb
            have kb := tkb
            clear tkb
            have tkl := kl.below (Nat.le_refl _) b10
            clear kl
            have kl := tkl
            clear tkl
            have B10 : Below (w.heap.size + 1) W0 (w9.alloc (.cells #[.slice un nb.use.length ucn, .int .i64 nb.ev] 29)) := B9.trans (b10.mono (HS.out _ B9).2.2.2.2)
            obtain ⟨gkn, hgkn⟩ : ∃ g, g = w9.heap.size := ⟨_, rfl⟩
            rw [← hgkn] at kn ⊢
            clear hgkn b10 y0 y1 y2 y3 y4 yz yq B9
            generalize w9.alloc (.cells #[.slice un nb.use.length ucn, .int .i64 nb.ev] 29) = w10 at *
            obtain ⟨⟨y0, y1, y2, y3, y4⟩, -, -, -, yz⟩ := HS.out w10 B10
            have yq := Nat.lt_of_succ_le yz
            refine (plB_any r f lo tm _ ps _ pl nb.wd _ (HS.out _ B10).2.1 (HS.out _ B10).2.2.1).mono ?_
            rintro e w11 ⟨uvc, rfl, hrowc, hownc, b11⟩
            rw [hcb, eN]
            have B11 : Below (w.heap.size + 1) W0 w11 := B10.trans (b11.mono (HS.out _ B10).2.2.2.2)
            have tka := ka.below (Nat.le_refl _) b11
            clear ka
            have ka := tka
            clear tka
            have tkb := kb.below (Nat.le_refl _) b11
            clear kb
            have kb := tkb
            clear tkb
            have tkl := kl.below (Nat.le_refl _) b11
            clear kl
            have kl := tkl
            clear tkl
            have tkn := kn.below (Nat.le_refl _) b11
            clear kn
            have kn := tkn
            clear tkn
            rw [hcb] at hrowc
            simp only [accO, Option.getD_some] at hrowc
            obtain ⟨uc9, ucc, huvc, -⟩ := id hrowc
            subst huvc
            clear hownc
            clear y0 y1 y2 y3 y4 yz yq b11 B10
            obtain ⟨⟨y0, y1, y2, y3, y4⟩, -, -, -, yz⟩ := HS.out w11 B11
            have yq := Nat.lt_of_succ_le yz
            simp only [accO, Option.getD_some, Option.isSome_some]
            go_wp2_with fail
            have kcb : BxS (w11.alloc (.cells #[.slice uc9 cb.use.length ucc, .int .i64 cb.ev] 29)) w11.heap.size (.slice uc9 cb.use.length ucc) cb.use cb.ev := BxS.made hrowc
            have b12 : Below w11.heap.size w11 (w11.alloc (.cells #[.slice uc9 cb.use.length ucc, .int .i64 cb.ev] 29)) := (by ((repeat' (first | with_reducible exact Below.refl _ _ | with_reducible refine Below.alloc ?_ ?_ _ | with_reducible refine Below.setCell ?_ ?_ _ | with_reducible refine Below.drew ?_ | with_reducible refine below_drewN ?_ _)) <;> (first | omega | (simp; done) | (simp; omega))))
            have tka := ka.below (Nat.le_refl _) b12
            clear ka
            have ka := tka
            clear tka
            have tkb := kb.below (Nat.le_refl _) b12
            clear kb
            have kb := tkb
            clear tkb
            have tkl := kl.below (Nat.le_refl _) b12
            clear kl
            have kl := tkl
            clear tkl
            have tkn := kn.below (Nat.le_refl _) b12
            clear kn
            have kn := tkn
            clear tkn
            have B12 : Below (w.heap.size + 1) W0 (w11.alloc (.cells #[.slice uc9 cb.use.length ucc, .int .i64 cb.ev] 29)) := B11.trans (b12.mono (HS.out _ B11).2.2.2.2)
            obtain ⟨gkcb, hgkcb⟩ : ∃ g, g = w11.heap.size := ⟨_, rfl⟩
            rw [← hgkcb] at kcb ⊢
            clear hgkcb b12 y0 y1 y2 y3 y4 yz yq B11
            generalize w11.alloc (.cells #[.slice uc9 cb.use.length ucc, .int .i64 cb.ev] 29) = w12 at *
            obtain ⟨⟨y0, y1, y2, y3, y4⟩, -, -, -, yz⟩ := HS.out w12 B12
            have yq := Nat.lt_of_succ_le yz
            refine (Hqc.out _ (HS.out _ B12).2.1 _ kcb.2.2.1).mono ?_
            rintro e w13 ⟨rfl, b13⟩
            have B13 : Below (w.heap.size + 1) W0 w13 := B12.trans (b13.mono (HS.out _ B12).2.2.2.2)
            have tka := ka.below (Nat.le_refl _) b13
            clear ka
            have ka := tka
            clear tka
            have tkb := kb.below (Nat.le_refl _) b13
            clear kb
            have kb := tkb
            clear tkb
            have tkl := kl.below (Nat.le_refl _) b13
            clear kl
            have kl := tkl
            clear tkl
            have tkn := kn.below (Nat.le_refl _) b13
            clear kn
            have kn := tkn
            clear tkn
            have tkcb := kcb.below (Nat.le_refl _) b13
            clear kcb
            have kcb := tkcb
            clear tkcb
            clear y0 y1 y2 y3 y4 yz yq b13 B12
            obtain ⟨⟨y0, y1, y2, y3, y4⟩, -, -, -, yz⟩ := HS.out w13 B13
            have yq := Nat.lt_of_succ_le yz
            go_wp2_with fail
            go_ret
            exact ⟨rfl, (HS.out _ B13).2.2.2.1⟩
        | true =>
          refine (RPeriods_any r f lo tm _ (.slice a4 q cap4) (pl ++ [p]) _ kl).mono ?_
          rintro e w8 ⟨rfl, b8⟩
          rw [hP]
          have B8 : Below (w.heap.size + 1) W0 w8 := B7.trans (b8.mono (HS.out _ B7).2.2.2.2)
          have tka := ka.below (Nat.le_refl _) b8
          clear ka
          have ka := tka
          clear tka
          have tkb := kb.below (Nat.le_refl _) b8
          clear kb
          have kb := tkb
          clear tkb
          have tkl := kl.below (Nat.le_refl _) b8
          clear kl
          have kl := tkl
          clear tkl
          clear y0 y1 y2 y3 y4 yz yq b8 B7
          obtain ⟨⟨y0, y1, y2, y3, y4⟩, -, -, -, yz⟩ := HS.out w8 B8
          have yq := Nat.lt_of_succ_le yz
          go_wp2_with fail
          cases hN : nwO ⟨r, f, lo, tm, ps⟩ pl with
          | none =>
            refine (plN_any r f lo tm _ ps _ pl _ (HS.out _ B8).2.1 (HS.out _ B8).2.2.1).mono ?_
            rintro e w9 ⟨uvn, rfl, hrown, hownn, b9⟩
            rw [hN, hnn hN]
            have B9 : Below (w.heap.size + 1) W0 w9 := B8.trans (b9.mono (HS.out _ B8).2.2.2.2)
            have tka := ka.below (Nat.le_refl _) b9
            clear ka
            have ka := tka
            clear tka
            have tkb := kb.below (Nat.le_refl _) b9
            clear kb
            have kb := tkb
            clear tkb
            have tkl := kl.below (Nat.le_refl _) b9
            clear kl
            have kl := tkl
            clear tkl
            obtain ⟨un, ucn, huvn, -⟩ := id hrown
            subst huvn
            clear hownn
            generalize (accO none).wd = Nn at *
            generalize (accO none).ev = En at *
            generalize (accO none).use = Un at *
            clear y0 y1 y2 y3 y4 yz yq b9 B8
            obtain ⟨⟨y0, y1, y2, y3, y4⟩, -, -, -, yz⟩ := HS.out w9 B9
            have yq := Nat.lt_of_succ_le yz
            go_wp2_with fail
            go_ret
            exact ⟨rfl, (by ((repeat' (first | with_reducible exact Below.refl _ _ | with_reducible exact (HS.out _ B9).2.2.2.1 | with_reducible refine Below.alloc ?_ ?_ _ | with_reducible refine Below.setCell ?_ ?_ _ | with_reducible refine Below.drew ?_ | with_reducible refine below_drewN ?_ _ | with_reducible refine Below.trans ?_ ((HS.out _ B9).2.2.2.1.mono ?_))) <;> (first | omega | (simp; done) | (simp; omega))))⟩
          | some nb =>
            have hrw := hns nb hN
            by_cases hle : 3000000000000000 < nb.wd
            · have dle : decide (3000000000000000 < nb.wd) = true := decide_eq_true hle
              clear hle
              refine (plN_any r f lo tm _ ps _ pl _ (HS.out _ B8).2.1 (HS.out _ B8).2.2.1).mono ?_
              rintro e w9 ⟨uvn, rfl, hrown, hownn, b9⟩
              rw [hN, hrw]
              have B9 : Below (w.heap.size + 1) W0 w9 := B8.trans (b9.mono (HS.out _ B8).2.2.2.2)
              have tka := ka.below (Nat.le_refl _) b9
              clear ka
              have ka := tka
              clear tka
              have tkb := kb.below (Nat.le_refl _) b9
              clear kb
              have kb := tkb
              clear tkb
              have tkl := kl.below (Nat.le_refl _) b9
              clear kl
              have kl := tkl
              clear tkl
              rw [hN] at hrown
              simp only [accO, Option.getD_some] at hrown
              obtain ⟨un, ucn, huvn, -⟩ := id hrown
              subst huvn
              clear hownn
              clear y0 y1 y2 y3 y4 yz yq b9 B8
              obtain ⟨⟨y0, y1, y2, y3, y4⟩, -, -, -, yz⟩ := HS.out w9 B9
              have yq := Nat.lt_of_succ_le yz
              simp only [accO, Option.getD_some]
              go_wp2_with fail
              go_ret
              exact ⟨rfl, (by ((repeat' (first | with_reducible exact Below.refl _ _ | with_reducible exact (HS.out _ B9).2.2.2.1 | with_reducible refine Below.alloc ?_ ?_ _ | with_reducible refine Below.setCell ?_ ?_ _ | with_reducible refine Below.drew ?_ | with_reducible refine below_drewN ?_ _ | with_reducible refine Below.trans ?_ ((HS.out _ B9).2.2.2.1.mono ?_))) <;> (first | omega | (simp; done) | (simp; omega))))⟩
            have dle : decide (3000000000000000 < nb.wd) = false := decide_eq_false hle
            obtain ⟨eN, cb, hcb, cR, cW⟩ := narrow_best hN (by omega)
            have hqc := fun V (h1 : PrRow V (.slice pa ps.length pc) ps) uv (h2 : IsRow V uv cb.use) => wdWidthS_any r f lo tm _ ps uv cb.use cb.ev V h1 h2
            rw [wdEr_ok cR, cW] at hqc
            have Hqc := hide hqc
            clear hqc cR cW hle
            refine (plN_any r f lo tm _ ps _ pl _ (HS.out _ B8).2.1 (HS.out _ B8).2.2.1).mono ?_
            rintro e w9 ⟨uvn, rfl, hrown, hownn, b9⟩
            rw [hN, hrw]
            have B9 : Below (w.heap.size + 1) W0 w9 := B8.trans (b9.mono (HS.out _ B8).2.2.2.2)
            have tka := ka.below (Nat.le_refl _) b9
            clear ka
            have ka := tka
            clear tka
            have tkb := kb.below (Nat.le_refl _) b9
            clear kb
            have kb := tkb
            clear tkb
            have tkl := kl.below (Nat.le_refl _) b9
            clear kl
            have kl := tkl
            clear tkl
            rw [hN] at hrown
            simp only [accO, Option.getD_some] at hrown
            obtain ⟨un, ucn, huvn, -⟩ := id hrown
            subst huvn
            clear hownn
            clear y0 y1 y2 y3 y4 yz yq b9 B8
            obtain ⟨⟨y0, y1, y2, y3, y4⟩, -, -, -, yz⟩ := HS.out w9 B9
            have yq := Nat.lt_of_succ_le yz
            simp only [accO, Option.getD_some]
            go_wp2_with fail
            have kn : BxS (w9.alloc (.cells #[.slice un nb.use.length ucn, .int .i64 nb.ev] 29)) w9.heap.size (.slice un nb.use.length ucn) nb.use nb.ev := BxS.made hrown
            have b10 : Below w9.heap.size w9 (w9.alloc (.cells #[.slice un nb.use.length ucn, .int .i64 nb.ev] 29)) := (by ((repeat' (first | with_reducible exact Below.refl _ _ | with_reducible refine Below.alloc ?_ ?_ _ | with_reducible refine Below.setCell ?_ ?_ _ | with_reducible refine Below.drew ?_ | with_reducible refine below_drewN ?_ _)) <;> (first | omega | (simp; done) | (simp; omega))))
            have tka := ka.below (Nat.le_refl _) b10
            clear ka
            have ka := tka
            clear tka
            have tkb := kb.below (Nat.le_refl _) b10
            clear kb
            have kb := tkb
            clear tkb
            have tkl := kl.below (Nat.le_refl _) b10
            clear kl
            have kl := tkl
            clear tkl
            have B10 : Below (w.heap.size + 1) W0 (w9.alloc (.cells #[.slice un nb.use.length ucn, .int .i64 nb.ev] 29)) := B9.trans (b10.mono (HS.out _ B9).2.2.2.2)
            obtain ⟨gkn, hgkn⟩ : ∃ g, g = w9.heap.size := ⟨_, rfl⟩
            rw [← hgkn] at kn ⊢
            clear hgkn b10 y0 y1 y2 y3 y4 yz yq B9
            generalize w9.alloc (.cells #[.slice un nb.use.length ucn, .int .i64 nb.ev] 29) = w10 at *
            obtain ⟨⟨y0, y1, y2, y3, y4⟩, -, -, -, yz⟩ := HS.out w10 B10
            have yq := Nat.lt_of_succ_le yz
            refine (plB_any r f lo tm _ ps _ pl nb.wd _ (HS.out _ B10).2.1 (HS.out _ B10).2.2.1).mono ?_
            rintro e w11 ⟨uvc, rfl, hrowc, hownc, b11⟩
            rw [hcb, eN]
            have B11 : Below (w.heap.size + 1) W0 w11 := B10.trans (b11.mono (HS.out _ B10).2.2.2.2)
            have tka := ka.below (Nat.le_refl _) b11
            clear ka
            have ka := tka
            clear tka
            have tkb := kb.below (Nat.le_refl _) b11
            clear kb
            have kb := tkb
            clear tkb
            have tkl := kl.below (Nat.le_refl _) b11
            clear kl
            have kl := tkl
            clear tkl
            have tkn := kn.below (Nat.le_refl _) b11
            clear kn
            have kn := tkn
            clear tkn
            rw [hcb] at hrowc
            simp only [accO, Option.getD_some] at hrowc
            obtain ⟨uc9, ucc, huvc, -⟩ := id hrowc
            subst huvc
            clear hownc
            clear y0 y1 y2 y3 y4 yz yq b11 B10
            obtain ⟨⟨y0, y1, y2, y3, y4⟩, -, -, -, yz⟩ := HS.out w11 B11
            have yq := Nat.lt_of_succ_le yz
            simp only [accO, Option.getD_some, Option.isSome_some]
            go_wp2_with fail
            have kcb : BxS (w11.alloc (.cells #[.slice uc9 cb.use.length ucc, .int .i64 cb.ev] 29)) w11.heap.size (.slice uc9 cb.use.length ucc) cb.use cb.ev := BxS.made hrowc
            have b12 : Below w11.heap.size w11 (w11.alloc (.cells #[.slice uc9 cb.use.length ucc, .int .i64 cb.ev] 29)) := (by ((repeat' (first | with_reducible exact Below.refl _ _ | with_reducible refine Below.alloc ?_ ?_ _ | with_reducible refine Below.setCell ?_ ?_ _ | with_reducible refine Below.drew ?_ | with_reducible refine below_drewN ?_ _)) <;> (first | omega | (simp; done) | (simp; omega))))
            have tka := ka.below (Nat.le_refl _) b12
            clear ka
            have ka := tka
            clear tka
            have tkb := kb.below (Nat.le_refl _) b12
            clear kb
            have kb := tkb
            clear tkb
            have tkl := kl.below (Nat.le_refl _) b12
            clear kl
            have kl := tkl
            clear tkl
            have tkn := kn.below (Nat.le_refl _) b12
            clear kn
            have kn := tkn
            clear tkn
            have B12 : Below (w.heap.size + 1) W0 (w11.alloc (.cells #[.slice uc9 cb.use.length ucc, .int .i64 cb.ev] 29)) := B11.trans (b12.mono (HS.out _ B11).2.2.2.2)
            obtain ⟨gkcb, hgkcb⟩ : ∃ g, g = w11.heap.size := ⟨_, rfl⟩
            rw [← hgkcb] at kcb ⊢
            clear hgkcb b12 y0 y1 y2 y3 y4 yz yq B11
            generalize w11.alloc (.cells #[.slice uc9 cb.use.length ucc, .int .i64 cb.ev] 29) = w12 at *
            obtain ⟨⟨y0, y1, y2, y3, y4⟩, -, -, -, yz⟩ := HS.out w12 B12
            have yq := Nat.lt_of_succ_le yz
            refine (Hqc.out _ (HS.out _ B12).2.1 _ kcb.2.2.1).mono ?_
            rintro e w13 ⟨rfl, b13⟩
            have B13 : Below (w.heap.size + 1) W0 w13 := B12.trans (b13.mono (HS.out _ B12).2.2.2.2)
            have tka := ka.below (Nat.le_refl _) b13
            clear ka
            have ka := tka
            clear tka
            have tkb := kb.below (Nat.le_refl _) b13
            clear kb
            have kb := tkb
            clear tkb
            have tkl := kl.below (Nat.le_refl _) b13
            clear kl
            have kl := tkl
            clear tkl
            have tkn := kn.below (Nat.le_refl _) b13
            clear kn
            have kn := tkn
            clear tkn
            have tkcb := kcb.below (Nat.le_refl _) b13
            clear kcb
            have kcb := tkcb
            clear tkcb
            clear y0 y1 y2 y3 y4 yz yq b13 B12
            obtain ⟨⟨y0, y1, y2, y3, y4⟩, -, -, -, yz⟩ := HS.out w13 B13
            have yq := Nat.lt_of_succ_le yz
            go_wp2_with fail
            go_ret
            exact ⟨rfl, (HS.out _ B13).2.2.2.1⟩
      · have dq1 : decide ((q : Int) ≤ 4) = false := decide_eq_false (by omega)
        have dq2 : decide (q ≤ 4) = false := decide_eq_false hq4
        have tok1 : True := trivial
        have pv0 := (HS.out _ B6).2.2.1
        have hWz : w6.heap.size ≤ w6.heap.size := Nat.le_refl _
        go_wp2_with (first
          | (at_builtin; have _t := tok1; clear tok1; refine wpList_append_own _ rfl _ _ 25 rfl w6.heap.size 3 i0 (.int .i64 0) 1 8 Try.underlying25 hi0 hz0 hz1 hz2 rfl (by decide) _ 0 [] rfl (own_newI (base := w6.heap.size) (World.alloc_heap_new w6 _) (Nat.le_refl _)) ⟨b0, off, none⟩ pl.length vc (encI pl) rfl (by rw [encI_length, Nat.mul_one]) (isrow_cells (pv0.below (Nat.le_refl _) ((Below.refl _ _).alloc (Nat.le_refl _) _))) (encI_one pl) (by unfold maxLen; omega) (by omega) (by simp) ?_; intro v3 u3 hown3 hg3 _; rw [Nat.zero_add, List.nil_append] at hown3; obtain ⟨a3, cap3, rfl⟩ := ownsRow_val hown3; have hz3 := hg3.size; simp only [World.size_alloc] at hz3; have D3 : Below w6.heap.size w6 u3 := ((Below.refl _ _).alloc (Nat.le_refl _) _).grown hg3 (by simp) (fun r h => by cases h; exact Nat.le_refl _); have hlo3 := World.ownsRow.lt hown3)
          | (at_builtin; refine wpList_append_own _ rfl _ _ 25 rfl w6.heap.size 3 i0 (.int .i64 0) 1 8 Try.underlying25 hi0 hz0 hz1 hz2 rfl (by decide) _ pl.length (encI pl) rfl (World.ownsRow.alloc hown3 _) ⟨u3.heap.size, 0, none⟩ 1 1 [.int .i64 p] rfl rfl (cells_new u3 [.int .i64 p] _) (by simp [Value.oneCell']) (by unfold maxLen; omega) (by omega) (by simp; omega) ?_; intro v4 u4 hown4 hg4 _; have hown5 : OwnIs u4 w6.heap.size v4 (pl ++ [p]) := OwnIs.app hown4; have kl := hown5.row; obtain ⟨a4, cap4, hv4, -, -⟩ := hown5.val; rw [Hq.out] at hv4; subst hv4; have D4 : Below w6.heap.size w6 u4 := (D3.alloc (by omega) _).grown hg4 (by simp; omega) (fun r h => (hlo3 r h).1); have Kl := hide kl; have D4h := hide D4; have B7 : Below (w.heap.size + 1) W0 u4 := B6.trans (D4.mono (HS.out _ B6).2.2.2.2); clear y0 y1 y2 y3 y4 yz yq hown3 hown4 hown5 hg3 hg4 kl D4 D3 hlo3 hz3; obtain ⟨⟨y0, y1, y2, y3, y4⟩, -, -, -, yz⟩ := HS.out u4 B7; have yq := Nat.lt_of_succ_le yz))
        have kl := Kl.out
        have tka := ka.below (Nat.le_refl _) D4h.out
        clear ka
        have ka := tka
        clear tka
        have tkb := kb.below (Nat.le_refl _) D4h.out
        clear kb
        have kb := tkb
        clear tkb
        clear Kl D4h pv0 hWz B6
        cases hN : nwO ⟨r, f, lo, tm, ps⟩ pl with
        | none =>
          refine (plN_any r f lo tm _ ps _ pl _ (HS.out _ B7).2.1 (HS.out _ B7).2.2.1).mono ?_
          rintro e w8 ⟨uvn, rfl, hrown, hownn, b8⟩
          rw [hN, hnn hN]
          have B8 : Below (w.heap.size + 1) W0 w8 := B7.trans (b8.mono (HS.out _ B7).2.2.2.2)
          have tka := ka.below (Nat.le_refl _) b8
          clear ka
          have ka := tka
          clear tka
          have tkb := kb.below (Nat.le_refl _) b8
          clear kb
          have kb := tkb
          clear tkb
          have tkl := kl.below (Nat.le_refl _) b8
          clear kl
          have kl := tkl
          clear tkl
          obtain ⟨un, ucn, huvn, -⟩ := id hrown
          subst huvn
          clear hownn
          generalize (accO none).wd = Nn at *
          generalize (accO none).ev = En at *
          generalize (accO none).use = Un at *
          clear y0 y1 y2 y3 y4 yz yq b8 B7
          obtain ⟨⟨y0, y1, y2, y3, y4⟩, -, -, -, yz⟩ := HS.out w8 B8
          have yq := Nat.lt_of_succ_le yz
          go_wp2_with fail
          go_ret
          exact ⟨rfl, (by ((repeat' (first | with_reducible exact Below.refl _ _ | with_reducible exact (HS.out _ B8).2.2.2.1 | with_reducible refine Below.alloc ?_ ?_ _ | with_reducible refine Below.setCell ?_ ?_ _ | with_reducible refine Below.drew ?_ | with_reducible refine below_drewN ?_ _ | with_reducible refine Below.trans ?_ ((HS.out _ B8).2.2.2.1.mono ?_))) <;> (first | omega | (simp; done) | (simp; omega))))⟩
        | some nb =>
          have hrw := hns nb hN
          by_cases hle : 3000000000000000 < nb.wd
          · have dle : decide (3000000000000000 < nb.wd) = true := decide_eq_true hle
            clear hle
            refine (plN_any r f lo tm _ ps _ pl _ (HS.out _ B7).2.1 (HS.out _ B7).2.2.1).mono ?_
            rintro e w8 ⟨uvn, rfl, hrown, hownn, b8⟩
            rw [hN, hrw]
            have B8 : Below (w.heap.size + 1) W0 w8 := B7.trans (b8.mono (HS.out _ B7).2.2.2.2)
            have tka := ka.below (Nat.le_refl _) b8
            clear ka
            have ka := tka
            clear tka
            have tkb := kb.below (Nat.le_refl _) b8
            clear kb
            have kb := tkb
            clear tkb
            have tkl := kl.below (Nat.le_refl _) b8
            clear kl
            have kl := tkl
            clear tkl
            rw [hN] at hrown
            simp only [accO, Option.getD_some] at hrown
            obtain ⟨un, ucn, huvn, -⟩ := id hrown
            subst huvn
            clear hownn
            clear y0 y1 y2 y3 y4 yz yq b8 B7
            obtain ⟨⟨y0, y1, y2, y3, y4⟩, -, -, -, yz⟩ := HS.out w8 B8
            have yq := Nat.lt_of_succ_le yz
            simp only [accO, Option.getD_some]
            go_wp2_with fail
            go_ret
            exact ⟨rfl, (by ((repeat' (first | with_reducible exact Below.refl _ _ | with_reducible exact (HS.out _ B8).2.2.2.1 | with_reducible refine Below.alloc ?_ ?_ _ | with_reducible refine Below.setCell ?_ ?_ _ | with_reducible refine Below.drew ?_ | with_reducible refine below_drewN ?_ _ | with_reducible refine Below.trans ?_ ((HS.out _ B8).2.2.2.1.mono ?_))) <;> (first | omega | (simp; done) | (simp; omega))))⟩
          have dle : decide (3000000000000000 < nb.wd) = false := decide_eq_false hle
          obtain ⟨eN, cb, hcb, cR, cW⟩ := narrow_best hN (by omega)
          have hqc := fun V (h1 : PrRow V (.slice pa ps.length pc) ps) uv (h2 : IsRow V uv cb.use) => wdWidthS_any r f lo tm _ ps uv cb.use cb.ev V h1 h2
          rw [wdEr_ok cR, cW] at hqc
          have Hqc := hide hqc
          clear hqc cR cW hle
          refine (plN_any r f lo tm _ ps _ pl _ (HS.out _ B7).2.1 (HS.out _ B7).2.2.1).mono ?_
          rintro e w8 ⟨uvn, rfl, hrown, hownn, b8⟩
          rw [hN, hrw]
          have B8 : Below (w.heap.size + 1) W0 w8 := B7.trans (b8.mono (HS.out _ B7).2.2.2.2)
          have tka := ka.below (Nat.le_refl _) b8
          clear ka
          have ka := tka
          clear tka
          have tkb := kb.below (Nat.le_refl _) b8
          clear kb
          have kb := tkb
          clear tkb
          have tkl := kl.below (Nat.le_refl _) b8
          clear kl
          have kl := tkl
          clear tkl
          rw [hN] at hrown
          simp only [accO, Option.getD_some] at hrown
          obtain ⟨un, ucn, huvn, -⟩ := id hrown
          subst huvn
          clear hownn
          clear y0 y1 y2 y3 y4 yz yq b8 B7
          obtain ⟨⟨y0, y1, y2, y3, y4⟩, -, -, -, yz⟩ := HS.out w8 B8
          have yq := Nat.lt_of_succ_le yz
          simp only [accO, Option.getD_some]
          go_wp2_with fail
          have kn : BxS (w8.alloc (.cells #[.slice un nb.use.length ucn, .int .i64 nb.ev] 29)) w8.heap.size (.slice un nb.use.length ucn) nb.use nb.ev := BxS.made hrown
          have b9 : Below w8.heap.size w8 (w8.alloc (.cells #[.slice un nb.use.length ucn, .int .i64 nb.ev] 29)) := (by ((repeat' (first | with_reducible exact Below.refl _ _ | with_reducible refine Below.alloc ?_ ?_ _ | with_reducible refine Below.setCell ?_ ?_ _ | with_reducible refine Below.drew ?_ | with_reducible refine below_drewN ?_ _)) <;> (first | omega | (simp; done) | (simp; omega))))
          have tka := ka.below (Nat.le_refl _) b9
          clear ka
          have ka := tka
          clear tka
          have tkb := kb.below (Nat.le_refl _) b9
          clear kb
          have kb := tkb
          clear tkb
          have tkl := kl.below (Nat.le_refl _) b9
          clear kl
          have kl := tkl
          clear tkl
          have B9 : Below (w.heap.size + 1) W0 (w8.alloc (.cells #[.slice un nb.use.length ucn, .int .i64 nb.ev] 29)) := B8.trans (b9.mono (HS.out _ B8).2.2.2.2)
          obtain ⟨gkn, hgkn⟩ : ∃ g, g = w8.heap.size := ⟨_, rfl⟩
          rw [← hgkn] at kn ⊢
          clear hgkn b9 y0 y1 y2 y3 y4 yz yq B8
          generalize w8.alloc (.cells #[.slice un nb.use.length ucn, .int .i64 nb.ev] 29) = w9 at *
          obtain ⟨⟨y0, y1, y2, y3, y4⟩, -, -, -, yz⟩ := HS.out w9 B9
          have yq := Nat.lt_of_succ_le yz
          refine (plB_any r f lo tm _ ps _ pl nb.wd _ (HS.out _ B9).2.1 (HS.out _ B9).2.2.1).mono ?_
          rintro e w10 ⟨uvc, rfl, hrowc, hownc, b10⟩
          rw [hcb, eN]
          have B10 : Below (w.heap.size + 1) W0 w10 := B9.trans (b10.mono (HS.out _ B9).2.2.2.2)
          have tka := ka.below (Nat.le_refl _) b10
          clear ka
          have ka := tka
          clear tka
          have tkb := kb.below (Nat.le_refl _) b10
          clear kb
          have kb := tkb
          clear tkb
          have tkl := kl.below (Nat.le_refl _) b10
          clear kl
          have kl := tkl
          clear tkl
          have tkn := kn.below (Nat.le_refl _) b10
          clear kn
          have kn := tkn
          clear tkn
          rw [hcb] at hrowc
          simp only [accO, Option.getD_some] at hrowc
          obtain ⟨uc9, ucc, huvc, -⟩ := id hrowc
          subst huvc
          clear hownc
          clear y0 y1 y2 y3 y4 yz yq b10 B9
          obtain ⟨⟨y0, y1, y2, y3, y4⟩, -, -, -, yz⟩ := HS.out w10 B10
          have yq := Nat.lt_of_succ_le yz
          simp only [accO, Option.getD_some, Option.isSome_some]
          go_wp2_with fail
          have kcb : BxS (w10.alloc (.cells #[.slice uc9 cb.use.length ucc, .int .i64 cb.ev] 29)) w10.heap.size (.slice uc9 cb.use.length ucc) cb.use cb.ev := BxS.made hrowc
          have b11 : Below w10.heap.size w10 (w10.alloc (.cells #[.slice uc9 cb.use.length ucc, .int .i64 cb.ev] 29)) := (by ((repeat' (first | with_reducible exact Below.refl _ _ | with_reducible refine Below.alloc ?_ ?_ _ | with_reducible refine Below.setCell ?_ ?_ _ | with_reducible refine Below.drew ?_ | with_reducible refine below_drewN ?_ _)) <;> (first | omega | (simp; done) | (simp; omega))))
          have tka := ka.below (Nat.le_refl _) b11
          clear ka
          have ka := tka
          clear tka
          have tkb := kb.below (Nat.le_refl _) b11
          clear kb
          have kb := tkb
          clear tkb
          have tkl := kl.below (Nat.le_refl _) b11
          clear kl
          have kl := tkl
          clear tkl
          have tkn := kn.below (Nat.le_refl _) b11
          clear kn
          have kn := tkn
          clear tkn
          have B11 : Below (w.heap.size + 1) W0 (w10.alloc (.cells #[.slice uc9 cb.use.length ucc, .int .i64 cb.ev] 29)) := B10.trans (b11.mono (HS.out _ B10).2.2.2.2)
          obtain ⟨gkcb, hgkcb⟩ : ∃ g, g = w10.heap.size := ⟨_, rfl⟩
          rw [← hgkcb] at kcb ⊢
          clear hgkcb b11 y0 y1 y2 y3 y4 yz yq B10
          generalize w10.alloc (.cells #[.slice uc9 cb.use.length ucc, .int .i64 cb.ev] 29) = w11 at *
          obtain ⟨⟨y0, y1, y2, y3, y4⟩, -, -, -, yz⟩ := HS.out w11 B11
          have yq := Nat.lt_of_succ_le yz
          refine (Hqc.out _ (HS.out _ B11).2.1 _ kcb.2.2.1).mono ?_
          rintro e w12 ⟨rfl, b12⟩
          have B12 : Below (w.heap.size + 1) W0 w12 := B11.trans (b12.mono (HS.out _ B11).2.2.2.2)
          have tka := ka.below (Nat.le_refl _) b12
          clear ka
          have ka := tka
          clear tka
          have tkb := kb.below (Nat.le_refl _) b12
          clear kb
          have kb := tkb
          clear tkb
          have tkl := kl.below (Nat.le_refl _) b12
          clear kl
          have kl := tkl
          clear tkl
          have tkn := kn.below (Nat.le_refl _) b12
          clear kn
          have kn := tkn
          clear tkn
          have tkcb := kcb.below (Nat.le_refl _) b12
          clear kcb
          have kcb := tkcb
          clear tkcb
          clear y0 y1 y2 y3 y4 yz yq b12 B11
          obtain ⟨⟨y0, y1, y2, y3, y4⟩, -, -, -, yz⟩ := HS.out w12 B12
          have yq := Nat.lt_of_succ_le yz
          go_wp2_with fail
          go_ret
          exact ⟨rfl, (HS.out _ B12).2.2.2.1⟩
    | some a =>
      obtain ⟨b, hB, aR, bR, hno⟩ := hmr a hA
      have hce0 : chE ⟨r, f, lo, tm, ps⟩ a.use a.ev b.use b.ev = 0 := by unfold chE; rw [if_pos ⟨aR, bR⟩]
      have hcb0 : chB ⟨r, f, lo, tm, ps⟩ a.use a.ev b.use b.ev = false := by unfold chB; rw [if_pos ⟨aR, bR⟩]; exact decide_eq_false hno
      clear hmr aR bR hno
      go_enter Try.func8, Try.ntmps8
      go_upto_region 1 with fail
      rw [← hW0]
      clear hW0
      have B0 : Below (w.heap.size + 1) W0 W0 := Below.refl _ _
      obtain ⟨⟨y0, y1, y2, y3, y4⟩, -, -, -, yz⟩ := HS.out W0 B0
      have yq := Nat.lt_of_succ_le yz
      go_wp2_with fail
      refine (plHead_any _).mono ?_
      rintro e w1 ⟨rfl, b1⟩
      have B1 : Below (w.heap.size + 1) W0 w1 := B0.trans (b1.mono (HS.out _ B0).2.2.2.2)
      clear y0 y1 y2 y3 y4 yz yq b1 B0
      obtain ⟨⟨y0, y1, y2, y3, y4⟩, -, -, -, yz⟩ := HS.out w1 B1
      have yq := Nat.lt_of_succ_le yz
      go_wp2_with fail
      refine (usable_any r f lo tm _ ps _ pl _ (HS.out _ B1).2.1 (HS.out _ B1).2.2.1).mono ?_
      rintro e w2 ⟨rfl, b2⟩
      rw [hU]
      have B2 : Below (w.heap.size + 1) W0 w2 := B1.trans (b2.mono (HS.out _ B1).2.2.2.2)
      clear y0 y1 y2 y3 y4 yz yq b2 B1
      obtain ⟨⟨y0, y1, y2, y3, y4⟩, -, -, -, yz⟩ := HS.out w2 B2
      have yq := Nat.lt_of_succ_le yz
      go_wp2_with fail
      refine (plB_any r f lo tm _ ps _ pl x _ (HS.out _ B2).2.1 (HS.out _ B2).2.2.1).mono ?_
      rintro e w3 ⟨uva, rfl, hrowa, howna, b3⟩
      rw [hA, hEx]
      have B3 : Below (w.heap.size + 1) W0 w3 := B2.trans (b3.mono (HS.out _ B2).2.2.2.2)
      rw [hA] at hrowa
      simp only [accO, Option.getD_some] at hrowa
      obtain ⟨ua, uca, huva, -⟩ := id hrowa
      subst huva
      clear howna
      clear y0 y1 y2 y3 y4 yz yq b3 B2
      obtain ⟨⟨y0, y1, y2, y3, y4⟩, -, -, -, yz⟩ := HS.out w3 B3
      have yq := Nat.lt_of_succ_le yz
      simp only [accO, Option.getD_some, Option.isSome_some]
      go_wp2_with fail
      have ka : BxS (w3.alloc (.cells #[.slice ua a.use.length uca, .int .i64 a.ev] 29)) w3.heap.size (.slice ua a.use.length uca) a.use a.ev := BxS.made hrowa
      have b4 : Below w3.heap.size w3 (w3.alloc (.cells #[.slice ua a.use.length uca, .int .i64 a.ev] 29)) := (by ((repeat' (first | with_reducible exact Below.refl _ _ | with_reducible refine Below.alloc ?_ ?_ _ | with_reducible refine Below.setCell ?_ ?_ _ | with_reducible refine Below.drew ?_ | with_reducible refine below_drewN ?_ _)) <;> (first | omega | (simp; done) | (simp; omega))))
      have B4 : Below (w.heap.size + 1) W0 (w3.alloc (.cells #[.slice ua a.use.length uca, .int .i64 a.ev] 29)) := B3.trans (b4.mono (HS.out _ B3).2.2.2.2)
      obtain ⟨gka, hgka⟩ : ∃ g, g = w3.heap.size := ⟨_, rfl⟩
      rw [← hgka] at ka ⊢
      clear hgka b4 y0 y1 y2 y3 y4 yz yq B3
      generalize w3.alloc (.cells #[.slice ua a.use.length uca, .int .i64 a.ev] 29) = w4 at *
      obtain ⟨⟨y0, y1, y2, y3, y4⟩, -, -, -, yz⟩ := HS.out w4 B4
      have yq := Nat.lt_of_succ_le yz
      refine (plB_any r f lo tm _ ps _ pl y _ (HS.out _ B4).2.1 (HS.out _ B4).2.2.1).mono ?_
      rintro e w5 ⟨uvb, rfl, hrowb, hownb, b5⟩
      rw [hB, hEy]
      have B5 : Below (w.heap.size + 1) W0 w5 := B4.trans (b5.mono (HS.out _ B4).2.2.2.2)
      have tka := ka.below (Nat.le_refl _) b5
      clear ka
      have ka := tka
      clear tka
      rw [hB] at hrowb
      simp only [accO, Option.getD_some] at hrowb
      obtain ⟨ub, ucb, huvb, -⟩ := id hrowb
      subst huvb
      clear hownb
      clear y0 y1 y2 y3 y4 yz yq b5 B4
      obtain ⟨⟨y0, y1, y2, y3, y4⟩, -, -, -, yz⟩ := HS.out w5 B5
      have yq := Nat.lt_of_succ_le yz
      simp only [accO, Option.getD_some, Option.isSome_some]
      obtain ⟨cka0, cka1, -, cka3⟩ := id ka
      go_wp2_with fail
      clear cka0 cka1 cka3
      have kb : BxS (w5.alloc (.cells #[.slice ub b.use.length ucb, .int .i64 b.ev] 29)) w5.heap.size (.slice ub b.use.length ucb) b.use b.ev := BxS.made hrowb
      have b6 : Below w5.heap.size w5 (w5.alloc (.cells #[.slice ub b.use.length ucb, .int .i64 b.ev] 29)) := (by ((repeat' (first | with_reducible exact Below.refl _ _ | with_reducible refine Below.alloc ?_ ?_ _ | with_reducible refine Below.setCell ?_ ?_ _ | with_reducible refine Below.drew ?_ | with_reducible refine below_drewN ?_ _)) <;> (first | omega | (simp; done) | (simp; omega))))
      have tka := ka.below (Nat.le_refl _) b6
      clear ka
      have ka := tka
      clear tka
      have B6 : Below (w.heap.size + 1) W0 (w5.alloc (.cells #[.slice ub b.use.length ucb, .int .i64 b.ev] 29)) := B5.trans (b6.mono (HS.out _ B5).2.2.2.2)
      obtain ⟨gkb, hgkb⟩ : ∃ g, g = w5.heap.size := ⟨_, rfl⟩
      rw [← hgkb] at kb ⊢
      clear hgkb b6 y0 y1 y2 y3 y4 yz yq B5
      generalize w5.alloc (.cells #[.slice ub b.use.length ucb, .int .i64 b.ev] 29) = w6 at *
      obtain ⟨⟨y0, y1, y2, y3, y4⟩, -, -, -, yz⟩ := HS.out w6 B6
      have yq := Nat.lt_of_succ_le yz
      refine (Cheaper_any r f lo tm _ ps _ a.use a.ev _ b.use b.ev _ (HS.out _ B6).2.1 ka.2.2.1 kb.2.2.1).mono ?_
      rintro e w7 ⟨rfl, b7⟩
      rw [hce0, hcb0]
      have B7 : Below (w.heap.size + 1) W0 w7 := B6.trans (b7.mono (HS.out _ B6).2.2.2.2)
      have tka := ka.below (Nat.le_refl _) b7
      clear ka
      have ka := tka
      clear tka
      have tkb := kb.below (Nat.le_refl _) b7
      clear kb
      have kb := tkb
      clear tkb
      clear y0 y1 y2 y3 y4 yz yq b7 B6
      obtain ⟨⟨y0, y1, y2, y3, y4⟩, -, -, -, yz⟩ := HS.out w7 B7
      have yq := Nat.lt_of_succ_le yz
      go_upto_region 12 with fail
      by_cases hq4 : q ≤ 4
      · have dq1 : decide ((q : Int) ≤ 4) = true := decide_eq_true (by omega)
        have dq2 : decide (q ≤ 4) = true := decide_eq_true hq4
        have tok1 : True := trivial
        have pv0 := (HS.out _ B7).2.2.1
        have hWz : w7.heap.size ≤ w7.heap.size := Nat.le_refl _
        go_wp2_with (first
          | (at_builtin; have _t := tok1; clear tok1; refine wpList_append_own _ rfl _ _ 25 rfl w7.heap.size 3 i0 (.int .i64 0) 1 8 Try.underlying25 hi0 hz0 hz1 hz2 rfl (by decide) _ 0 [] rfl (own_newI (base := w7.heap.size) (World.alloc_heap_new w7 _) (Nat.le_refl _)) ⟨b0, off, none⟩ pl.length vc (encI pl) rfl (by rw [encI_length, Nat.mul_one]) (isrow_cells (pv0.below (Nat.le_refl _) ((Below.refl _ _).alloc (Nat.le_refl _) _))) (encI_one pl) (by unfold maxLen; omega) (by omega) (by simp) ?_; intro v3 u3 hown3 hg3 _; rw [Nat.zero_add, List.nil_append] at hown3; obtain ⟨a3, cap3, rfl⟩ := ownsRow_val hown3; have hz3 := hg3.size; simp only [World.size_alloc] at hz3; have D3 : Below w7.heap.size w7 u3 := ((Below.refl _ _).alloc (Nat.le_refl _) _).grown hg3 (by simp) (fun r h => by cases h; exact Nat.le_refl _); have hlo3 := World.ownsRow.lt hown3)
          | (at_builtin; refine wpList_append_own _ rfl _ _ 25 rfl w7.heap.size 3 i0 (.int .i64 0) 1 8 Try.underlying25 hi0 hz0 hz1 hz2 rfl (by decide) _ pl.length (encI pl) rfl (World.ownsRow.alloc hown3 _) ⟨u3.heap.size, 0, none⟩ 1 1 [.int .i64 p] rfl rfl (cells_new u3 [.int .i64 p] _) (by simp [Value.oneCell']) (by unfold maxLen; omega) (by omega) (by simp; omega) ?_; intro v4 u4 hown4 hg4 _; have hown5 : OwnIs u4 w7.heap.size v4 (pl ++ [p]) := OwnIs.app hown4; have kl := hown5.row; obtain ⟨a4, cap4, hv4, -, -⟩ := hown5.val; rw [Hq.out] at hv4; subst hv4; have D4 : Below w7.heap.size w7 u4 := (D3.alloc (by omega) _).grown hg4 (by simp; omega) (fun r h => (hlo3 r h).1); have Kl := hide kl; have D4h := hide D4; have B8 : Below (w.heap.size + 1) W0 u4 := B7.trans (D4.mono (HS.out _ B7).2.2.2.2); clear y0 y1 y2 y3 y4 yz yq hown3 hown4 hown5 hg3 hg4 kl D4 D3 hlo3 hz3; obtain ⟨⟨y0, y1, y2, y3, y4⟩, -, -, -, yz⟩ := HS.out u4 B8; have yq := Nat.lt_of_succ_le yz))
        have kl := Kl.out
        have tka := ka.below (Nat.le_refl _) D4h.out
        clear ka
        have ka := tka
        clear tka
        have tkb := kb.below (Nat.le_refl _) D4h.out
        clear kb
        have kb := tkb
        clear tkb
        clear Kl D4h pv0 hWz B7
        cases hP : prdB tm (pl ++ [p]) with
        | false =>
          refine (RPeriods_any r f lo tm _ (.slice a4 q cap4) (pl ++ [p]) _ kl).mono ?_
          rintro e w9 ⟨rfl, b9⟩
          rw [hP]
          have B9 : Below (w.heap.size + 1) W0 w9 := B8.trans (b9.mono (HS.out _ B8).2.2.2.2)
          have tka := ka.below (Nat.le_refl _) b9
          clear ka
          have ka := tka
          clear tka
          have tkb := kb.below (Nat.le_refl _) b9
          clear kb
          have kb := tkb
          clear tkb
          have tkl := kl.below (Nat.le_refl _) b9
          clear kl
          have kl := tkl
          clear tkl
          clear y0 y1 y2 y3 y4 yz yq b9 B8
          obtain ⟨⟨y0, y1, y2, y3, y4⟩, -, -, -, yz⟩ := HS.out w9 B9
          have yq := Nat.lt_of_succ_le yz
          go_wp2_with fail
          cases hN : nwO ⟨r, f, lo, tm, ps⟩ pl with
          | none =>
            refine (plN_any r f lo tm _ ps _ pl _ (HS.out _ B9).2.1 (HS.out _ B9).2.2.1).mono ?_
            rintro e w10 ⟨uvn, rfl, hrown, hownn, b10⟩
            rw [hN, hnn hN]
            have B10 : Below (w.heap.size + 1) W0 w10 := B9.trans (b10.mono (HS.out _ B9).2.2.2.2)
            have tka := ka.below (Nat.le_refl _) b10
            clear ka
            have ka := tka
            clear tka
            have tkb := kb.below (Nat.le_refl _) b10
            clear kb
            have kb := tkb
            clear tkb
            have tkl := kl.below (Nat.le_refl _) b10
            clear kl
            have kl := tkl
            clear tkl
            obtain ⟨un, ucn, huvn, -⟩ := id hrown
            subst huvn
            clear hownn
            generalize (accO none).wd = Nn at *
            generalize (accO none).ev = En at *
            generalize (accO none).use = Un at *
            clear y0 y1 y2 y3 y4 yz yq b10 B9
            obtain ⟨⟨y0, y1, y2, y3, y4⟩, -, -, -, yz⟩ := HS.out w10 B10
            have yq := Nat.lt_of_succ_le yz
            go_wp2_with fail
            go_ret
            exact ⟨rfl, (by ((repeat' (first | with_reducible exact Below.refl _ _ | with_reducible exact (HS.out _ B10).2.2.2.1 | with_reducible refine Below.alloc ?_ ?_ _ | with_reducible refine Below.setCell ?_ ?_ _ | with_reducible refine Below.drew ?_ | with_reducible refine below_drewN ?_ _ | with_reducible refine Below.trans ?_ ((HS.out _ B10).2.2.2.1.mono ?_))) <;> (first | omega | (simp; done) | (simp; omega))))⟩
          | some nb =>
            have hrw := hns nb hN
            by_cases hle : 3000000000000000 < nb.wd
            · have dle : decide (3000000000000000 < nb.wd) = true := decide_eq_true hle
              clear hle
              refine (plN_any r f lo tm _ ps _ pl _ (HS.out _ B9).2.1 (HS.out _ B9).2.2.1).mono ?_
              rintro e w10 ⟨uvn, rfl, hrown, hownn, b10⟩
              rw [hN, hrw]
              have B10 : Below (w.heap.size + 1) W0 w10 := B9.trans (b10.mono (HS.out _ B9).2.2.2.2)
              have tka := ka.below (Nat.le_refl _) b10
              clear ka
              have ka := tka
              clear tka
              have tkb := kb.below (Nat.le_refl _) b10
              clear kb
              have kb := tkb
              clear tkb
              have tkl := kl.below (Nat.le_refl _) b10
              clear kl
              have kl := tkl
              clear tkl
              rw [hN] at hrown
              simp only [accO, Option.getD_some] at hrown
              obtain ⟨un, ucn, huvn, -⟩ := id hrown
              subst huvn
              clear hownn
              clear y0 y1 y2 y3 y4 yz yq b10 B9
              obtain ⟨⟨y0, y1, y2, y3, y4⟩, -, -, -, yz⟩ := HS.out w10 B10
              have yq := Nat.lt_of_succ_le yz
              simp only [accO, Option.getD_some]
              go_wp2_with fail
              go_ret
              exact ⟨rfl, (by ((repeat' (first | with_reducible exact Below.refl _ _ | with_reducible exact (HS.out _ B10).2.2.2.1 | with_reducible refine Below.alloc ?_ ?_ _ | with_reducible refine Below.setCell ?_ ?_ _ | with_reducible refine Below.drew ?_ | with_reducible refine below_drewN ?_ _ | with_reducible refine Below.trans ?_ ((HS.out _ B10).2.2.2.1.mono ?_))) <;> (first | omega | (simp; done) | (simp; omega))))⟩
            have dle : decide (3000000000000000 < nb.wd) = false := decide_eq_false hle
            obtain ⟨eN, cb, hcb, cR, cW⟩ := narrow_best hN (by omega)
            have hqc := fun V (h1 : PrRow V (.slice pa ps.length pc) ps) uv (h2 : IsRow V uv cb.use) => wdWidthS_any r f lo tm _ ps uv cb.use cb.ev V h1 h2
            rw [wdEr_ok cR, cW] at hqc
            have Hqc := hide hqc
            clear hqc cR cW hle
            refine (plN_any r f lo tm _ ps _ pl _ (HS.out _ B9).2.1 (HS.out _ B9).2.2.1).mono ?_
            rintro e w10 ⟨uvn, rfl, hrown, hownn, b10⟩
            rw [hN, hrw]
            have B10 : Below (w.heap.size + 1) W0 w10 := B9.trans (b10.mono (HS.out _ B9).2.2.2.2)
            have tka := ka.below (Nat.le_refl _) b10
            clear ka
            have ka := tka
            clear tka
            have tkb := kb.below (Nat.le_refl _) b10
            clear kb
            have kb := tkb
            clear tkb
            have tkl := kl.below (Nat.le_refl _) b10
            clear kl
            have kl := tkl
            clear tkl
            rw [hN] at hrown
            simp only [accO, Option.getD_some] at hrown
            obtain ⟨un, ucn, huvn, -⟩ := id hrown
            subst huvn
            clear hownn
            clear y0 y1 y2 y3 y4 yz yq b10 B9
            obtain ⟨⟨y0, y1, y2, y3, y4⟩, -, -, -, yz⟩ := HS.out w10 B10
            have yq := Nat.lt_of_succ_le yz
            simp only [accO, Option.getD_some]
            go_wp2_with fail
            have kn : BxS (w10.alloc (.cells #[.slice un nb.use.length ucn, .int .i64 nb.ev] 29)) w10.heap.size (.slice un nb.use.length ucn) nb.use nb.ev := BxS.made hrown
            have b11 : Below w10.heap.size w10 (w10.alloc (.cells #[.slice un nb.use.length ucn, .int .i64 nb.ev] 29)) := (by ((repeat' (first | with_reducible exact Below.refl _ _ | with_reducible refine Below.alloc ?_ ?_ _ | with_reducible refine Below.setCell ?_ ?_ _ | with_reducible refine Below.drew ?_ | with_reducible refine below_drewN ?_ _)) <;> (first | omega | (simp; done) | (simp; omega))))
            have tka := ka.below (Nat.le_refl _) b11
            clear ka
            have ka := tka
            clear tka
            have tkb := kb.below (Nat.le_refl _) b11
            clear kb
            have kb := tkb
            clear tkb
            have tkl := kl.below (Nat.le_refl _) b11
            clear kl
            have kl := tkl
            clear tkl
            have B11 : Below (w.heap.size + 1) W0 (w10.alloc (.cells #[.slice un nb.use.length ucn, .int .i64 nb.ev] 29)) := B10.trans (b11.mono (HS.out _ B10).2.2.2.2)
            obtain ⟨gkn, hgkn⟩ : ∃ g, g = w10.heap.size := ⟨_, rfl⟩
            rw [← hgkn] at kn ⊢
            clear hgkn b11 y0 y1 y2 y3 y4 yz yq B10
            generalize w10.alloc (.cells #[.slice un nb.use.length ucn, .int .i64 nb.ev] 29) = w11 at *
            obtain ⟨⟨y0, y1, y2, y3, y4⟩, -, -, -, yz⟩ := HS.out w11 B11
            have yq := Nat.lt_of_succ_le yz
            refine (plB_any r f lo tm _ ps _ pl nb.wd _ (HS.out _ B11).2.1 (HS.out _ B11).2.2.1).mono ?_
            rintro e w12 ⟨uvc, rfl, hrowc, hownc, b12⟩
            rw [hcb, eN]
            have B12 : Below (w.heap.size + 1) W0 w12 := B11.trans (b12.mono (HS.out _ B11).2.2.2.2)
            have tka := ka.below (Nat.le_refl _) b12
            clear ka
            have ka := tka
            clear tka
            have tkb := kb.below (Nat.le_refl _) b12
            clear kb
            have kb := tkb
            clear tkb
            have tkl := kl.below (Nat.le_refl _) b12
            clear kl
            have kl := tkl
            clear tkl
            have tkn := kn.below (Nat.le_refl _) b12
            clear kn
            have kn := tkn
            clear tkn
            rw [hcb] at hrowc
            simp only [accO, Option.getD_some] at hrowc
            obtain ⟨uc9, ucc, huvc, -⟩ := id hrowc
            subst huvc
            clear hownc
            clear y0 y1 y2 y3 y4 yz yq b12 B11
            obtain ⟨⟨y0, y1, y2, y3, y4⟩, -, -, -, yz⟩ := HS.out w12 B12
            have yq := Nat.lt_of_succ_le yz
            simp only [accO, Option.getD_some, Option.isSome_some]
            go_wp2_with fail
            have kcb : BxS (w12.alloc (.cells #[.slice uc9 cb.use.length ucc, .int .i64 cb.ev] 29)) w12.heap.size (.slice uc9 cb.use.length ucc) cb.use cb.ev := BxS.made hrowc
            have b13 : Below w12.heap.size w12 (w12.alloc (.cells #[.slice uc9 cb.use.length ucc, .int .i64 cb.ev] 29)) := (by ((repeat' (first | with_reducible exact Below.refl _ _ | with_reducible refine Below.alloc ?_ ?_ _ | with_reducible refine Below.setCell ?_ ?_ _ | with_reducible refine Below.drew ?_ | with_reducible refine below_drewN ?_ _)) <;> (first | omega | (simp; done) | (simp; omega))))
            have tka := ka.below (Nat.le_refl _) b13
            clear ka
            have ka := tka
            clear tka
            have tkb := kb.below (Nat.le_refl _) b13
            clear kb
            have kb := tkb
            clear tkb
            have tkl := kl.below (Nat.le_refl _) b13
            clear kl
            have kl := tkl
            clear tkl
            have tkn := kn.below (Nat.le_refl _) b13
            clear kn
            have kn := tkn
            clear tkn
            have B13 : Below (w.heap.size + 1) W0 (w12.alloc (.cells #[.slice uc9 cb.use.length ucc, .int .i64 cb.ev] 29)) := B12.trans (b13.mono (HS.out _ B12).2.2.2.2)
            obtain ⟨gkcb, hgkcb⟩ : ∃ g, g = w12.heap.size := ⟨_, rfl⟩
            rw [← hgkcb] at kcb ⊢
            clear hgkcb b13 y0 y1 y2 y3 y4 yz yq B12
            generalize w12.alloc (.cells #[.slice uc9 cb.use.length ucc, .int .i64 cb.ev] 29) = w13 at *
            obtain ⟨⟨y0, y1, y2, y3, y4⟩, -, -, -, yz⟩ := HS.out w13 B13
            have yq := Nat.lt_of_succ_le yz
            refine (Hqc.out _ (HS.out _ B13).2.1 _ kcb.2.2.1).mono ?_
            rintro e w14 ⟨rfl, b14⟩
            have B14 : Below (w.heap.size + 1) W0 w14 := B13.trans (b14.mono (HS.out _ B13).2.2.2.2)
            have tka := ka.below (Nat.le_refl _) b14
            clear ka
            have ka := tka
            clear tka
            have tkb := kb.below (Nat.le_refl _) b14
            clear kb
            have kb := tkb
            clear tkb
            have tkl := kl.below (Nat.le_refl _) b14
            clear kl
            have kl := tkl
            clear tkl
            have tkn := kn.below (Nat.le_refl _) b14
            clear kn
            have kn := tkn
            clear tkn
            have tkcb := kcb.below (Nat.le_refl _) b14
            clear kcb
            have kcb := tkcb
            clear tkcb
            clear y0 y1 y2 y3 y4 yz yq b14 B13
            obtain ⟨⟨y0, y1, y2, y3, y4⟩, -, -, -, yz⟩ := HS.out w14 B14
            have yq := Nat.lt_of_succ_le yz
            go_wp2_with fail
            go_ret
            exact ⟨rfl, (HS.out _ B14).2.2.2.1⟩
        | true =>
          obtain ⟨eD, cd, hcd, aR, dR, hno⟩ := longer_some (hckl hP) hA
          have hce : chE ⟨r, f, lo, tm, ps⟩ a.use a.ev cd.use cd.ev = 0 := by unfold chE; rw [if_pos ⟨aR, dR⟩]
          have hcb' : chB ⟨r, f, lo, tm, ps⟩ a.use a.ev cd.use cd.ev = false := by unfold chB; rw [if_pos ⟨aR, dR⟩]; exact decide_eq_false hno
          clear aR dR hno
          refine (RPeriods_any r f lo tm _ (.slice a4 q cap4) (pl ++ [p]) _ kl).mono ?_
          rintro e w9 ⟨rfl, b9⟩
          rw [hP]
          have B9 : Below (w.heap.size + 1) W0 w9 := B8.trans (b9.mono (HS.out _ B8).2.2.2.2)
          have tka := ka.below (Nat.le_refl _) b9
          clear ka
          have ka := tka
          clear tka
          have tkb := kb.below (Nat.le_refl _) b9
          clear kb
          have kb := tkb
          clear tkb
          have tkl := kl.below (Nat.le_refl _) b9
          clear kl
          have kl := tkl
          clear tkl
          clear y0 y1 y2 y3 y4 yz yq b9 B8
          obtain ⟨⟨y0, y1, y2, y3, y4⟩, -, -, -, yz⟩ := HS.out w9 B9
          have yq := Nat.lt_of_succ_le yz
          go_wp2_with fail
          refine (plB_any r f lo tm _ ps _ (pl ++ [p]) x _ (HS.out _ B9).2.1 kl).mono ?_
          rintro e w10 ⟨uvd, rfl, hrowd, hownd, b10⟩
          rw [hcd, eD]
          have B10 : Below (w.heap.size + 1) W0 w10 := B9.trans (b10.mono (HS.out _ B9).2.2.2.2)
          have tka := ka.below (Nat.le_refl _) b10
          clear ka
          have ka := tka
          clear tka
          have tkb := kb.below (Nat.le_refl _) b10
          clear kb
          have kb := tkb
          clear tkb
          have tkl := kl.below (Nat.le_refl _) b10
          clear kl
          have kl := tkl
          clear tkl
          rw [hcd] at hrowd
          simp only [accO, Option.getD_some] at hrowd
          obtain ⟨ud, ucd, huvd, -⟩ := id hrowd
          subst huvd
          clear hownd
          clear y0 y1 y2 y3 y4 yz yq b10 B9
          obtain ⟨⟨y0, y1, y2, y3, y4⟩, -, -, -, yz⟩ := HS.out w10 B10
          have yq := Nat.lt_of_succ_le yz
          simp only [accO, Option.getD_some, Option.isSome_some]
          obtain ⟨cka0, cka1, -, cka3⟩ := id ka
          go_wp2_with fail
          clear cka0 cka1 cka3
          have kd : BxS (w10.alloc (.cells #[.slice ud cd.use.length ucd, .int .i64 cd.ev] 29)) w10.heap.size (.slice ud cd.use.length ucd) cd.use cd.ev := BxS.made hrowd
          have b11 : Below w10.heap.size w10 (w10.alloc (.cells #[.slice ud cd.use.length ucd, .int .i64 cd.ev] 29)) := (by ((repeat' (first | with_reducible exact Below.refl _ _ | with_reducible refine Below.alloc ?_ ?_ _ | with_reducible refine Below.setCell ?_ ?_ _ | with_reducible refine Below.drew ?_ | with_reducible refine below_drewN ?_ _)) <;> (first | omega | (simp; done) | (simp; omega))))
          have tka := ka.below (Nat.le_refl _) b11
          clear ka
          have ka := tka
          clear tka
          have tkb := kb.below (Nat.le_refl _) b11
          clear kb
          have kb := tkb
          clear tkb
          have tkl := kl.below (Nat.le_refl _) b11
          clear kl
          have kl := tkl
          clear tkl
          have B11 : Below (w.heap.size + 1) W0 (w10.alloc (.cells #[.slice ud cd.use.length ucd, .int .i64 cd.ev] 29)) := B10.trans (b11.mono (HS.out _ B10).2.2.2.2)
          obtain ⟨gkd, hgkd⟩ : ∃ g, g = w10.heap.size := ⟨_, rfl⟩
          rw [← hgkd] at kd ⊢
          clear hgkd b11 y0 y1 y2 y3 y4 yz yq B10
          generalize w10.alloc (.cells #[.slice ud cd.use.length ucd, .int .i64 cd.ev] 29) = w11 at *
          obtain ⟨⟨y0, y1, y2, y3, y4⟩, -, -, -, yz⟩ := HS.out w11 B11
          have yq := Nat.lt_of_succ_le yz
          refine (Cheaper_any r f lo tm _ ps _ a.use a.ev _ cd.use cd.ev _ (HS.out _ B11).2.1 ka.2.2.1 kd.2.2.1).mono ?_
          rintro e w12 ⟨rfl, b12⟩
          rw [hce, hcb']
          have B12 : Below (w.heap.size + 1) W0 w12 := B11.trans (b12.mono (HS.out _ B11).2.2.2.2)
          have tka := ka.below (Nat.le_refl _) b12
          clear ka
          have ka := tka
          clear tka
          have tkb := kb.below (Nat.le_refl _) b12
          clear kb
          have kb := tkb
          clear tkb
          have tkl := kl.below (Nat.le_refl _) b12
          clear kl
          have kl := tkl
          clear tkl
          have tkd := kd.below (Nat.le_refl _) b12
          clear kd
          have kd := tkd
          clear tkd
          clear y0 y1 y2 y3 y4 yz yq b12 B11
          obtain ⟨⟨y0, y1, y2, y3, y4⟩, -, -, -, yz⟩ := HS.out w12 B12
          have yq := Nat.lt_of_succ_le yz
          go_wp2_with fail
          cases hN : nwO ⟨r, f, lo, tm, ps⟩ pl with
          | none =>
            refine (plN_any r f lo tm _ ps _ pl _ (HS.out _ B12).2.1 (HS.out _ B12).2.2.1).mono ?_
            rintro e w13 ⟨uvn, rfl, hrown, hownn, b13⟩
            rw [hN, hnn hN]
            have B13 : Below (w.heap.size + 1) W0 w13 := B12.trans (b13.mono (HS.out _ B12).2.2.2.2)
            have tka := ka.below (Nat.le_refl _) b13
            clear ka
            have ka := tka
            clear tka
            have tkb := kb.below (Nat.le_refl _) b13
            clear kb
            have kb := tkb
            clear tkb
            have tkl := kl.below (Nat.le_refl _) b13
            clear kl
            have kl := tkl
            clear tkl
            have tkd := kd.below (Nat.le_refl _) b13
            clear kd
            have kd := tkd
            clear tkd
            obtain ⟨un, ucn, huvn, -⟩ := id hrown
            subst huvn
            clear hownn
            generalize (accO none).wd = Nn at *
            generalize (accO none).ev = En at *
            generalize (accO none).use = Un at *
            clear y0 y1 y2 y3 y4 yz yq b13 B12
            obtain ⟨⟨y0, y1, y2, y3, y4⟩, -, -, -, yz⟩ := HS.out w13 B13
            have yq := Nat.lt_of_succ_le yz
            go_wp2_with fail
            go_ret
            exact ⟨rfl, (by ((repeat' (first | with_reducible exact Below.refl _ _ | with_reducible exact (HS.out _ B13).2.2.2.1 | with_reducible refine Below.alloc ?_ ?_ _ | with_reducible refine Below.setCell ?_ ?_ _ | with_reducible refine Below.drew ?_ | with_reducible refine below_drewN ?_ _ | with_reducible refine Below.trans ?_ ((HS.out _ B13).2.2.2.1.mono ?_))) <;> (first | omega | (simp; done) | (simp; omega))))⟩
          | some nb =>
            have hrw := hns nb hN
            by_cases hle : 3000000000000000 < nb.wd
            · have dle : decide (3000000000000000 < nb.wd) = true := decide_eq_true hle
              clear hle
              refine (plN_any r f lo tm _ ps _ pl _ (HS.out _ B12).2.1 (HS.out _ B12).2.2.1).mono ?_
              rintro e w13 ⟨uvn, rfl, hrown, hownn, b13⟩
              rw [hN, hrw]
              have B13 : Below (w.heap.size + 1) W0 w13 := B12.trans (b13.mono (HS.out _ B12).2.2.2.2)
              have tka := ka.below (Nat.le_refl _) b13
              clear ka
              have ka := tka
              clear tka
              have tkb := kb.below (Nat.le_refl _) b13
              clear kb
              have kb := tkb
              clear tkb
              have tkl := kl.below (Nat.le_refl _) b13
              clear kl
              have kl := tkl
              clear tkl
              have tkd := kd.below (Nat.le_refl _) b13
              clear kd
              have kd := tkd
              clear tkd
              rw [hN] at hrown
              simp only [accO, Option.getD_some] at hrown
              obtain ⟨un, ucn, huvn, -⟩ := id hrown
              subst huvn
              clear hownn
              clear y0 y1 y2 y3 y4 yz yq b13 B12
              obtain ⟨⟨y0, y1, y2, y3, y4⟩, -, -, -, yz⟩ := HS.out w13 B13
              have yq := Nat.lt_of_succ_le yz
              simp only [accO, Option.getD_some]
              go_wp2_with fail
              go_ret
              exact ⟨rfl, (by ((repeat' (first | with_reducible exact Below.refl _ _ | with_reducible exact (HS.out _ B13).2.2.2.1 | with_reducible refine Below.alloc ?_ ?_ _ | with_reducible refine Below.setCell ?_ ?_ _ | with_reducible refine Below.drew ?_ | with_reducible refine below_drewN ?_ _ | with_reducible refine Below.trans ?_ ((HS.out _ B13).2.2.2.1.mono ?_))) <;> (first | omega | (simp; done) | (simp; omega))))⟩
            have dle : decide (3000000000000000 < nb.wd) = false := decide_eq_false hle
            obtain ⟨eN, cb, hcb, cR, cW⟩ := narrow_best hN (by omega)
            have hqc := fun V (h1 : PrRow V (.slice pa ps.length pc) ps) uv (h2 : IsRow V uv cb.use) => wdWidthS_any r f lo tm _ ps uv cb.use cb.ev V h1 h2
            rw [wdEr_ok cR, cW] at hqc
            have Hqc := hide hqc
            clear hqc cR cW hle
            refine (plN_any r f lo tm _ ps _ pl _ (HS.out _ B12).2.1 (HS.out _ B12).2.2.1).mono ?_
            rintro e w13 ⟨uvn, rfl, hrown, hownn, b13⟩
            rw [hN, hrw]
            have B13 : Below (w.heap.size + 1) W0 w13 := B12.trans (b13.mono (HS.out _ B12).2.2.2.2)
            have tka := ka.below (Nat.le_refl _) b13
            clear ka
            have ka := tka
            clear tka
            have tkb := kb.below (Nat.le_refl _) b13
            clear kb
            have kb := tkb
            clear tkb
            have tkl := kl.below (Nat.le_refl _) b13
            clear kl
            have kl := tkl
            clear tkl
            have tkd := kd.below (Nat.le_refl _) b13
            clear kd
            have kd := tkd
            clear tkd
            rw [hN] at hrown
            simp only [accO, Option.getD_some] at hrown
            obtain ⟨un, ucn, huvn, -⟩ := id hrown
            subst huvn
            clear hownn
            clear y0 y1 y2 y3 y4 yz yq b13 B12
            obtain ⟨⟨y0, y1, y2, y3, y4⟩, -, -, -, yz⟩ := HS.out w13 B13
            have yq := Nat.lt_of_succ_le yz
            simp only [accO, Option.getD_some]
            go_wp2_with fail
            have kn : BxS (w13.alloc (.cells #[.slice un nb.use.length ucn, .int .i64 nb.ev] 29)) w13.heap.size (.slice un nb.use.length ucn) nb.use nb.ev := BxS.made hrown
            have b14 : Below w13.heap.size w13 (w13.alloc (.cells #[.slice un nb.use.length ucn, .int .i64 nb.ev] 29)) := (by ((repeat' (first | with_reducible exact Below.refl _ _ | with_reducible refine Below.alloc ?_ ?_ _ | with_reducible refine Below.setCell ?_ ?_ _ | with_reducible refine Below.drew ?_ | with_reducible refine below_drewN ?_ _)) <;> (first | omega | (simp; done) | (simp; omega))))
            have tka := ka.below (Nat.le_refl _) b14
            clear ka
            have ka := tka
            clear tka
            have tkb := kb.below (Nat.le_refl _) b14
            clear kb
            have kb := tkb
            clear tkb
            have tkl := kl.below (Nat.le_refl _) b14
            clear kl
            have kl := tkl
            clear tkl
            have tkd := kd.below (Nat.le_refl _) b14
            clear kd
            have kd := tkd
            clear tkd
            have B14 : Below (w.heap.size + 1) W0 (w13.alloc (.cells #[.slice un nb.use.length ucn, .int .i64 nb.ev] 29)) := B13.trans (b14.mono (HS.out _ B13).2.2.2.2)
            obtain ⟨gkn, hgkn⟩ : ∃ g, g = w13.heap.size := ⟨_, rfl⟩
            rw [← hgkn] at kn ⊢
            clear hgkn b14 y0 y1 y2 y3 y4 yz yq B13
            generalize w13.alloc (.cells #[.slice un nb.use.length ucn, .int .i64 nb.ev] 29) = w14 at *
            obtain ⟨⟨y0, y1, y2, y3, y4⟩, -, -, -, yz⟩ := HS.out w14 B14
            have yq := Nat.lt_of_succ_le yz
            refine (plB_any r f lo tm _ ps _ pl nb.wd _ (HS.out _ B14).2.1 (HS.out _ B14).2.2.1).mono ?_
            rintro e w15 ⟨uvc, rfl, hrowc, hownc, b15⟩
            rw [hcb, eN]
            have B15 : Below (w.heap.size + 1) W0 w15 := B14.trans (b15.mono (HS.out _ B14).2.2.2.2)
            have tka := ka.below (Nat.le_refl _) b15
            clear ka
            have ka := tka
            clear tka
            have tkb := kb.below (Nat.le_refl _) b15
            clear kb
            have kb := tkb
            clear tkb
            have tkl := kl.below (Nat.le_refl _) b15
            clear kl
            have kl := tkl
            clear tkl
            have tkd := kd.below (Nat.le_refl _) b15
            clear kd
            have kd := tkd
            clear tkd
            have tkn := kn.below (Nat.le_refl _) b15
            clear kn
            have kn := tkn
            clear tkn
            rw [hcb] at hrowc
            simp only [accO, Option.getD_some] at hrowc
            obtain ⟨uc9, ucc, huvc, -⟩ := id hrowc
            subst huvc
            clear hownc
            clear y0 y1 y2 y3 y4 yz yq b15 B14
            obtain ⟨⟨y0, y1, y2, y3, y4⟩, -, -, -, yz⟩ := HS.out w15 B15
            have yq := Nat.lt_of_succ_le yz
            simp only [accO, Option.getD_some, Option.isSome_some]
            go_wp2_with fail
            have kcb : BxS (w15.alloc (.cells #[.slice uc9 cb.use.length ucc, .int .i64 cb.ev] 29)) w15.heap.size (.slice uc9 cb.use.length ucc) cb.use cb.ev := BxS.made hrowc
            have b16 : Below w15.heap.size w15 (w15.alloc (.cells #[.slice uc9 cb.use.length ucc, .int .i64 cb.ev] 29)) := (by ((repeat' (first | with_reducible exact Below.refl _ _ | with_reducible refine Below.alloc ?_ ?_ _ | with_reducible refine Below.setCell ?_ ?_ _ | with_reducible refine Below.drew ?_ | with_reducible refine below_drewN ?_ _)) <;> (first | omega | (simp; done) | (simp; omega))))
            have tka := ka.below (Nat.le_refl _) b16
            clear ka
            have ka := tka
            clear tka
            have tkb := kb.below (Nat.le_refl _) b16
            clear kb
            have kb := tkb
            clear tkb
            have tkl := kl.below (Nat.le_refl _) b16
            clear kl
            have kl := tkl
            clear tkl
            have tkd := kd.below (Nat.le_refl _) b16
            clear kd
            have kd := tkd
            clear tkd
            have tkn := kn.below (Nat.le_refl _) b16
            clear kn
            have kn := tkn
            clear tkn
            have B16 : Below (w.heap.size + 1) W0 (w15.alloc (.cells #[.slice uc9 cb.use.length ucc, .int .i64 cb.ev] 29)) := B15.trans (b16.mono (HS.out _ B15).2.2.2.2)
            obtain ⟨gkcb, hgkcb⟩ : ∃ g, g = w15.heap.size := ⟨_, rfl⟩
            rw [← hgkcb] at kcb ⊢
            clear hgkcb b16 y0 y1 y2 y3 y4 yz yq B15
            generalize w15.alloc (.cells #[.slice uc9 cb.use.length ucc, .int .i64 cb.ev] 29) = w16 at *
            obtain ⟨⟨y0, y1, y2, y3, y4⟩, -, -, -, yz⟩ := HS.out w16 B16
            have yq := Nat.lt_of_succ_le yz
            refine (Hqc.out _ (HS.out _ B16).2.1 _ kcb.2.2.1).mono ?_
            rintro e w17 ⟨rfl, b17⟩
            have B17 : Below (w.heap.size + 1) W0 w17 := B16.trans (b17.mono (HS.out _ B16).2.2.2.2)
            have tka := ka.below (Nat.le_refl _) b17
            clear ka
            have ka := tka
            clear tka
            have tkb := kb.below (Nat.le_refl _) b17
            clear kb
            have kb := tkb
            clear tkb
            have tkl := kl.below (Nat.le_refl _) b17
            clear kl
            have kl := tkl
            clear tkl
            have tkd := kd.below (Nat.le_refl _) b17
            clear kd
            have kd := tkd
            clear tkd
            have tkn := kn.below (Nat.le_refl _) b17
            clear kn
            have kn := tkn
            clear tkn
            have tkcb := kcb.below (Nat.le_refl _) b17
            clear kcb
            have kcb := tkcb
            clear tkcb
            clear y0 y1 y2 y3 y4 yz yq b17 B16
            obtain ⟨⟨y0, y1, y2, y3, y4⟩, -, -, -, yz⟩ := HS.out w17 B17
            have yq := Nat.lt_of_succ_le yz
            go_wp2_with fail
            go_ret
            exact ⟨rfl, (HS.out _ B17).2.2.2.1⟩
      · have dq1 : decide ((q : Int) ≤ 4) = false := decide_eq_false (by omega)
        have dq2 : decide (q ≤ 4) = false := decide_eq_false hq4
        have tok1 : True := trivial
        have pv0 := (HS.out _ B7).2.2.1
        have hWz : w7.heap.size ≤ w7.heap.size := Nat.le_refl _
        go_wp2_with (first
          | (at_builtin; have _t := tok1; clear tok1; refine wpList_append_own _ rfl _ _ 25 rfl w7.heap.size 3 i0 (.int .i64 0) 1 8 Try.underlying25 hi0 hz0 hz1 hz2 rfl (by decide) _ 0 [] rfl (own_newI (base := w7.heap.size) (World.alloc_heap_new w7 _) (Nat.le_refl _)) ⟨b0, off, none⟩ pl.length vc (encI pl) rfl (by rw [encI_length, Nat.mul_one]) (isrow_cells (pv0.below (Nat.le_refl _) ((Below.refl _ _).alloc (Nat.le_refl _) _))) (encI_one pl) (by unfold maxLen; omega) (by omega) (by simp) ?_; intro v3 u3 hown3 hg3 _; rw [Nat.zero_add, List.nil_append] at hown3; obtain ⟨a3, cap3, rfl⟩ := ownsRow_val hown3; have hz3 := hg3.size; simp only [World.size_alloc] at hz3; have D3 : Below w7.heap.size w7 u3 := ((Below.refl _ _).alloc (Nat.le_refl _) _).grown hg3 (by simp) (fun r h => by cases h; exact Nat.le_refl _); have hlo3 := World.ownsRow.lt hown3)
          | (at_builtin; refine wpList_append_own _ rfl _ _ 25 rfl w7.heap.size 3 i0 (.int .i64 0) 1 8 Try.underlying25 hi0 hz0 hz1 hz2 rfl (by decide) _ pl.length (encI pl) rfl (World.ownsRow.alloc hown3 _) ⟨u3.heap.size, 0, none⟩ 1 1 [.int .i64 p] rfl rfl (cells_new u3 [.int .i64 p] _) (by simp [Value.oneCell']) (by unfold maxLen; omega) (by omega) (by simp; omega) ?_; intro v4 u4 hown4 hg4 _; have hown5 : OwnIs u4 w7.heap.size v4 (pl ++ [p]) := OwnIs.app hown4; have kl := hown5.row; obtain ⟨a4, cap4, hv4, -, -⟩ := hown5.val; rw [Hq.out] at hv4; subst hv4; have D4 : Below w7.heap.size w7 u4 := (D3.alloc (by omega) _).grown hg4 (by simp; omega) (fun r h => (hlo3 r h).1); have Kl := hide kl; have D4h := hide D4; have B8 : Below (w.heap.size + 1) W0 u4 := B7.trans (D4.mono (HS.out _ B7).2.2.2.2); clear y0 y1 y2 y3 y4 yz yq hown3 hown4 hown5 hg3 hg4 kl D4 D3 hlo3 hz3; obtain ⟨⟨y0, y1, y2, y3, y4⟩, -, -, -, yz⟩ := HS.out u4 B8; have yq := Nat.lt_of_succ_le yz))
        have kl := Kl.out
        have tka := ka.below (Nat.le_refl _) D4h.out
        clear ka
        have ka := tka
        clear tka
        have tkb := kb.below (Nat.le_refl _) D4h.out
        clear kb
        have kb := tkb
        clear tkb
        clear Kl D4h pv0 hWz B7
        cases hN : nwO ⟨r, f, lo, tm, ps⟩ pl with
        | none =>
          refine (plN_any r f lo tm _ ps _ pl _ (HS.out _ B8).2.1 (HS.out _ B8).2.2.1).mono ?_
          rintro e w9 ⟨uvn, rfl, hrown, hownn, b9⟩
          rw [hN, hnn hN]
          have B9 : Below (w.heap.size + 1) W0 w9 := B8.trans (b9.mono (HS.out _ B8).2.2.2.2)
          have tka := ka.below (Nat.le_refl _) b9
          clear ka
          have ka := tka
          clear tka
          have tkb := kb.below (Nat.le_refl _) b9
          clear kb
          have kb := tkb
          clear tkb
          have tkl := kl.below (Nat.le_refl _) b9
          clear kl
          have kl := tkl
          clear tkl
          obtain ⟨un, ucn, huvn, -⟩ := id hrown
          subst huvn
          clear hownn
          generalize (accO none).wd = Nn at *
          generalize (accO none).ev = En at *
          generalize (accO none).use = Un at *
          clear y0 y1 y2 y3 y4 yz yq b9 B8
          obtain ⟨⟨y0, y1, y2, y3, y4⟩, -, -, -, yz⟩ := HS.out w9 B9
          have yq := Nat.lt_of_succ_le yz
          go_wp2_with fail
          go_ret
          exact ⟨rfl, (by ((repeat' (first | with_reducible exact Below.refl _ _ | with_reducible exact (HS.out _ B9).2.2.2.1 | with_reducible refine Below.alloc ?_ ?_ _ | with_reducible refine Below.setCell ?_ ?_ _ | with_reducible refine Below.drew ?_ | with_reducible refine below_drewN ?_ _ | with_reducible refine Below.trans ?_ ((HS.out _ B9).2.2.2.1.mono ?_))) <;> (first | omega | (simp; done) | (simp; omega))))⟩
        | some nb =>
          have hrw := hns nb hN
          by_cases hle : 3000000000000000 < nb.wd
          · have dle : decide (3000000000000000 < nb.wd) = true := decide_eq_true hle
            clear hle
            refine (plN_any r f lo tm _ ps _ pl _ (HS.out _ B8).2.1 (HS.out _ B8).2.2.1).mono ?_
            rintro e w9 ⟨uvn, rfl, hrown, hownn, b9⟩
            rw [hN, hrw]
            have B9 : Below (w.heap.size + 1) W0 w9 := B8.trans (b9.mono (HS.out _ B8).2.2.2.2)
            have tka := ka.below (Nat.le_refl _) b9
            clear ka
            have ka := tka
            clear tka
            have tkb := kb.below (Nat.le_refl _) b9
            clear kb
            have kb := tkb
            clear tkb
            have tkl := kl.below (Nat.le_refl _) b9
            clear kl
            have kl := tkl
            clear tkl
            rw [hN] at hrown
            simp only [accO, Option.getD_some] at hrown
            obtain ⟨un, ucn, huvn, -⟩ := id hrown
            subst huvn
            clear hownn
            clear y0 y1 y2 y3 y4 yz yq b9 B8
            obtain ⟨⟨y0, y1, y2, y3, y4⟩, -, -, -, yz⟩ := HS.out w9 B9
            have yq := Nat.lt_of_succ_le yz
            simp only [accO, Option.getD_some]
            go_wp2_with fail
            go_ret
            exact ⟨rfl, (by ((repeat' (first | with_reducible exact Below.refl _ _ | with_reducible exact (HS.out _ B9).2.2.2.1 | with_reducible refine Below.alloc ?_ ?_ _ | with_reducible refine Below.setCell ?_ ?_ _ | with_reducible refine Below.drew ?_ | with_reducible refine below_drewN ?_ _ | with_reducible refine Below.trans ?_ ((HS.out _ B9).2.2.2.1.mono ?_))) <;> (first | omega | (simp; done) | (simp; omega))))⟩
          have dle : decide (3000000000000000 < nb.wd) = false := decide_eq_false hle
          obtain ⟨eN, cb, hcb, cR, cW⟩ := narrow_best hN (by omega)
          have hqc := fun V (h1 : PrRow V (.slice pa ps.length pc) ps) uv (h2 : IsRow V uv cb.use) => wdWidthS_any r f lo tm _ ps uv cb.use cb.ev V h1 h2
          rw [wdEr_ok cR, cW] at hqc
          have Hqc := hide hqc
          clear hqc cR cW hle
          refine (plN_any r f lo tm _ ps _ pl _ (HS.out _ B8).2.1 (HS.out _ B8).2.2.1).mono ?_
          rintro e w9 ⟨uvn, rfl, hrown, hownn, b9⟩
          rw [hN, hrw]
          have B9 : Below (w.heap.size + 1) W0 w9 := B8.trans (b9.mono (HS.out _ B8).2.2.2.2)
          have tka := ka.below (Nat.le_refl _) b9
          clear ka
          have ka := tka
          clear tka
          have tkb := kb.below (Nat.le_refl _) b9
          clear kb
          have kb := tkb
          clear tkb
          have tkl := kl.below (Nat.le_refl _) b9
          clear kl
          have kl := tkl
          clear tkl
          rw [hN] at hrown
          simp only [accO, Option.getD_some] at hrown
          obtain ⟨un, ucn, huvn, -⟩ := id hrown
          subst huvn
          clear hownn
          clear y0 y1 y2 y3 y4 yz yq b9 B8
          obtain ⟨⟨y0, y1, y2, y3, y4⟩, -, -, -, yz⟩ := HS.out w9 B9
          have yq := Nat.lt_of_succ_le yz
          simp only [accO, Option.getD_some]
          go_wp2_with fail
          have kn : BxS (w9.alloc (.cells #[.slice un nb.use.length ucn, .int .i64 nb.ev] 29)) w9.heap.size (.slice un nb.use.length ucn) nb.use nb.ev := BxS.made hrown
          have b10 : Below w9.heap.size w9 (w9.alloc (.cells #[.slice un nb.use.length ucn, .int .i64 nb.ev] 29)) := (by ((repeat' (first | with_reducible exact Below.refl _ _ | with_reducible refine Below.alloc ?_ ?_ _ | with_reducible refine Below.setCell ?_ ?_ _ | with_reducible refine Below.drew ?_ | with_reducible refine below_drewN ?_ _)) <;> (first | omega | (simp; done) | (simp; omega))))
          have tka := ka.below (Nat.le_refl _) b10
          clear ka
          have ka := tka
          clear tka
          have tkb := kb.below (Nat.le_refl _) b10
          clear kb
          have kb := tkb
          clear tkb
          have tkl := kl.below (Nat.le_refl _) b10
          clear kl
          have kl := tkl
          clear tkl
          have B10 : Below (w.heap.size + 1) W0 (w9.alloc (.cells #[.slice un nb.use.length ucn, .int .i64 nb.ev] 29)) := B9.trans (b10.mono (HS.out _ B9).2.2.2.2)
          obtain ⟨gkn, hgkn⟩ : ∃ g, g = w9.heap.size := ⟨_, rfl⟩
          rw [← hgkn] at kn ⊢
          clear hgkn b10 y0 y1 y2 y3 y4 yz yq B9
          generalize w9.alloc (.cells #[.slice un nb.use.length ucn, .int .i64 nb.ev] 29) = w10 at *
          obtain ⟨⟨y0, y1, y2, y3, y4⟩, -, -, -, yz⟩ := HS.out w10 B10
          have yq := Nat.lt_of_succ_le yz
          refine (plB_any r f lo tm _ ps _ pl nb.wd _ (HS.out _ B10).2.1 (HS.out _ B10).2.2.1).mono ?_
          rintro e w11 ⟨uvc, rfl, hrowc, hownc, b11⟩
          rw [hcb, eN]
          have B11 : Below (w.heap.size + 1) W0 w11 := B10.trans (b11.mono (HS.out _ B10).2.2.2.2)
          have tka := ka.below (Nat.le_refl _) b11
          clear ka
          have ka := tka
          clear tka
          have tkb := kb.below (Nat.le_refl _) b11
          clear kb
          have kb := tkb
          clear tkb
          have tkl := kl.below (Nat.le_refl _) b11
          clear kl
          have kl := tkl
          clear tkl
          have tkn := kn.below (Nat.le_refl _) b11
          clear kn
          have kn := tkn
          clear tkn
          rw [hcb] at hrowc
          simp only [accO, Option.getD_some] at hrowc
          obtain ⟨uc9, ucc, huvc, -⟩ := id hrowc
          subst huvc
          clear hownc
          clear y0 y1 y2 y3 y4 yz yq b11 B10
          obtain ⟨⟨y0, y1, y2, y3, y4⟩, -, -, -, yz⟩ := HS.out w11 B11
          have yq := Nat.lt_of_succ_le yz
          simp only [accO, Option.getD_some, Option.isSome_some]
          go_wp2_with fail
          have kcb : BxS (w11.alloc (.cells #[.slice uc9 cb.use.length ucc, .int .i64 cb.ev] 29)) w11.heap.size (.slice uc9 cb.use.length ucc) cb.use cb.ev := BxS.made hrowc
          have b12 : Below w11.heap.size w11 (w11.alloc (.cells #[.slice uc9 cb.use.length ucc, .int .i64 cb.ev] 29)) := (by ((repeat' (first | with_reducible exact Below.refl _ _ | with_reducible refine Below.alloc ?_ ?_ _ | with_reducible refine Below.setCell ?_ ?_ _ | with_reducible refine Below.drew ?_ | with_reducible refine below_drewN ?_ _)) <;> (first | omega | (simp; done) | (simp; omega))))
          have tka := ka.below (Nat.le_refl _) b12
          clear ka
          have ka := tka
          clear tka
          have tkb := kb.below (Nat.le_refl _) b12
          clear kb
          have kb := tkb
          clear tkb
          have tkl := kl.below (Nat.le_refl _) b12
          clear kl
          have kl := tkl
          clear tkl
          have tkn := kn.below (Nat.le_refl _) b12
          clear kn
          have kn := tkn
          clear tkn
          have B12 : Below (w.heap.size + 1) W0 (w11.alloc (.cells #[.slice uc9 cb.use.length ucc, .int .i64 cb.ev] 29)) := B11.trans (b12.mono (HS.out _ B11).2.2.2.2)
          obtain ⟨gkcb, hgkcb⟩ : ∃ g, g = w11.heap.size := ⟨_, rfl⟩
          rw [← hgkcb] at kcb ⊢
          clear hgkcb b12 y0 y1 y2 y3 y4 yz yq B11
          generalize w11.alloc (.cells #[.slice uc9 cb.use.length ucc, .int .i64 cb.ev] 29) = w12 at *
          obtain ⟨⟨y0, y1, y2, y3, y4⟩, -, -, -, yz⟩ := HS.out w12 B12
          have yq := Nat.lt_of_succ_le yz
          refine (Hqc.out _ (HS.out _ B12).2.1 _ kcb.2.2.1).mono ?_
          rintro e w13 ⟨rfl, b13⟩
          have B13 : Below (w.heap.size + 1) W0 w13 := B12.trans (b13.mono (HS.out _ B12).2.2.2.2)
          have tka := ka.below (Nat.le_refl _) b13
          clear ka
          have ka := tka
          clear tka
          have tkb := kb.below (Nat.le_refl _) b13
          clear kb
          have kb := tkb
          clear tkb
          have tkl := kl.below (Nat.le_refl _) b13
          clear kl
          have kl := tkl
          clear tkl
          have tkn := kn.below (Nat.le_refl _) b13
          clear kn
          have kn := tkn
          clear tkn
          have tkcb := kcb.below (Nat.le_refl _) b13
          clear kcb
          have kcb := tkcb
          clear tkcb
          clear y0 y1 y2 y3 y4 yz yq b13 B12
          obtain ⟨⟨y0, y1, y2, y3, y4⟩, -, -, -, yz⟩ := HS.out w13 B13
          have yq := Nat.lt_of_succ_le yz
          go_wp2_with fail
          go_ret
          exact ⟨rfl, (HS.out _ B13).2.2.2.1⟩
set_option maxRecDepth 100000 in
theorem planMore_holds : Rows.PlanMoreSaid :=
  OpenClaim.holds_of_wide 8 Try.f8 rfl rfl rfl rfl rfl rfl rfl ⟨rfl, rfl, rfl, rfl, rfl⟩ rfl rfl rfl rfl rfl (by kernel_rfl) Try.func8 (by kernel_rfl)
    (of_decide_eq_true (by kernel_rfl)) (by unfold Func.isWrapper; rw [if_neg (of_decide_eq_false (by kernel_rfl))]; exact ⟨rfl, rfl⟩)
    (fun os started H enc _ => law_lifted started 8 Try.f8 Try.func8 (by kernel_rfl) Rows.planMoreSpec rfl rfl
      (fun ds h => by match ds, h with | [_, _, _, _, _], _ => exact ⟨rfl, rfl, rfl⟩)
      (fun t h => by
        rw [Try.params8] at h
        simp only [List.mem_cons, List.not_mem_nil, or_false] at h
        rcases h with rfl | rfl | rfl | rfl | rfl <;> exact ⟨by kernel_rfl, of_decide_eq_true (by kernel_rfl)⟩)
      (ChangeSpec.witness6 (enc := enc) (C := Try.checked) false ⟨#[], #[.agg #[.int .i64 0, .int .i64 0, .int .i64 0, .int .i64 0, .slice none 0 0], .slice none 0 0, .int .i64 0, .int .i64 0, .int .i64 0], []⟩ 8 (by kernel_rfl) (by kernel_rfl) (by kernel_rfl) (by kernel_rfl))
      (fun W base args ds p hA hok => by
        rw [Try.params8] at hA hok
        obtain ⟨v0, vs0, d0, ds0, p0, q0, hargs, rfl, rfl, h0, r0⟩ := ChangeShapes.trodAll_cons hA
        obtain ⟨v1, vs1, d1, ds1, p1, q1, rfl, rfl, rfl, h1, r1⟩ := ChangeShapes.trodAll_cons r0
        obtain ⟨v2, vs2, d2, ds2, p2, q2, rfl, rfl, rfl, h2, r2⟩ := ChangeShapes.trodAll_cons r1
        obtain ⟨v3, vs3, d3, ds3, p3, q3, rfl, rfl, rfl, h3, r3⟩ := ChangeShapes.trodAll_cons r2
        obtain ⟨v4, vs4, d4, ds4, p4, q4, rfl, rfl, rfl, h4, r4⟩ := ChangeShapes.trodAll_cons r3
        obtain ⟨rfl, rfl, rfl⟩ := ChangeShapes.trodAll_nil r4
        obtain rfl : args = #[v0, v1, v2, v3, v4] := by rw [← Array.toArray_toList (xs := args), hargs]
        obtain ⟨l0, hl0⟩ := open_site (hok 0 _ v0 rfl rfl) h0
        obtain ⟨l1, hl1, wl1⟩ := open_is (hok 1 _ v1 rfl rfl) h1
        obtain ⟨x2, rfl, hx2⟩ := open_i64 Try.underlying3 (hok 2 _ v2 rfl rfl) h2
        obtain ⟨x3, rfl, hx3⟩ := open_i64 Try.underlying3 (hok 3 _ v3 rfl rfl) h3
        obtain ⟨x4, rfl, hx4⟩ := open_i64 Try.underlying3 (hok 4 _ v4 rfl rfl) h4
        exact PlMore_any W v0 l0 hl0 v1 l1 hl1 wl1 x2 x3 x4))
end Go.Proofs.Ytiaahfccebmkdaa
