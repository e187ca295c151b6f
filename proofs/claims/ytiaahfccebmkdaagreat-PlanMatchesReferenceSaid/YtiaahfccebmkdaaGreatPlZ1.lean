/- PlanMatchesReference: for all arguments the statement answers true and leaves its arguments as they were. No condition. -/
import Derived.Test.YtiaahfccebmkdaaGreatPlW
import Derived.Test.YtiaahfccebmkdaaGreatGn
import Derived.Test.YtiaahfccebmkdaaGreatGh
namespace Go.Proofs.YtiaahfccebmkdaaGreat
open Go.RowKit

/-- The boxes of two schedules. -/
def C4 (W : World) (n g h : Nat) (u : Value) (e : Int) (v : Value) (d : Int) : Prop :=
  (W.cell? ⟨g, 0, none⟩ = some u ∧ W.cell? ⟨g, 1, none⟩ = some (.int .i64 e) ∧ W.cell? ⟨h, 0, none⟩ = some v ∧ W.cell? ⟨h, 1, none⟩ = some (.int .i64 d)) ∧
  (W.frozen? ⟨g, 0, none⟩ = false ∧ W.frozen? ⟨g, 1, none⟩ = false ∧ W.frozen? ⟨h, 0, none⟩ = false ∧ W.frozen? ⟨h, 1, none⟩ = false) ∧ n ≤ g ∧ g < h ∧ h < W.heap.size
theorem C4.below {W V : World} {n g h : Nat} {u : Value} {e : Int} {v : Value} {d : Int} (k : C4 W n g h u e v d) (hb : Below W.heap.size W V) : C4 V n g h u e v d := by
  obtain ⟨⟨a0, a1, a2, a3⟩, ⟨f0, f1, f2, f3⟩, z1, z2, z3⟩ := k
  have h1 := bk hb g (by omega)
  have h2 := bk hb h z3
  exact ⟨⟨(h1.1 _).trans a0, (h1.1 _).trans a1, (h2.1 _).trans a2, (h2.1 _).trans a3⟩, ⟨(h1.2 _).trans f0, (h1.2 _).trans f1, (h2.2 _).trans f2, (h2.2 _).trans f3⟩, z1, z2, Nat.lt_of_lt_of_le z3 hb.size⟩
theorem C4.putB {W : World} {n g h : Nat} {u : Value} {e : Int} {v : Value} {d : Int} (k : C4 W n g h u e v d) (x : Value) (y : Int) : C4 ((W.setCell ⟨g, 0, none⟩ x).setCell ⟨g, 1, none⟩ (.int .i64 y)) n g h x y v d := by
  obtain ⟨⟨a0, a1, a2, a3⟩, ⟨f0, f1, f2, f3⟩, z1, z2, z3⟩ := k
  refine ⟨⟨set_other _ (set_same _ a0) (by intro q; simp at q), set_same _ (set_other _ a1 (by intro q; simp at q)), set_other _ (set_other _ a2 (by intro q; cases q <;> omega)) (by intro q; cases q <;> omega), set_other _ (set_other _ a3 (by intro q; cases q <;> omega)) (by intro q; cases q <;> omega)⟩, ⟨?_, ?_, ?_, ?_⟩, z1, z2, by simpa [World.setCell] using z3⟩
  all_goals simp only [World.frozen?_setCell]; assumption
theorem C4.putD {W : World} {n g h : Nat} {u : Value} {e : Int} {v : Value} {d : Int} (k : C4 W n g h u e v d) (x : Value) (y : Int) : C4 ((W.setCell ⟨h, 0, none⟩ x).setCell ⟨h, 1, none⟩ (.int .i64 y)) n g h u e x y := by
  obtain ⟨⟨a0, a1, a2, a3⟩, ⟨f0, f1, f2, f3⟩, z1, z2, z3⟩ := k
  refine ⟨⟨set_other _ (set_other _ a0 (by intro q; cases q <;> omega)) (by intro q; cases q <;> omega), set_other _ (set_other _ a1 (by intro q; cases q <;> omega)) (by intro q; cases q <;> omega), set_other _ (set_same _ a2) (by intro q; simp at q), set_same _ (set_other _ a3 (by intro q; simp at q))⟩, ⟨?_, ?_, ?_, ?_⟩, z1, z2, by simpa [World.setCell] using z3⟩
  all_goals simp only [World.frozen?_setCell]; assumption
theorem C4.made {w V : World} {n : Nat} {u : Value} {e : Int} {v : Value} {d : Int} {t t' : TypeId} (hn : n ≤ w.heap.size) (hb : Below (w.alloc (.cells #[u, .int .i64 e] t)).heap.size (w.alloc (.cells #[u, .int .i64 e] t)) V) : C4 (V.alloc (.cells #[v, .int .i64 d] t')) n w.heap.size V.heap.size u e v d := by
  have h1 := bk hb w.heap.size (by simp)
  have z := hb.size
  simp only [World.size_alloc] at z
  have zz : w.heap.size < V.heap.size := by omega
  have hb2 : Below V.heap.size V (V.alloc (.cells #[v, .int .i64 d] t')) := (by ((repeat' (first | with_reducible exact Below.refl _ _ | with_reducible refine Below.alloc ?_ ?_ _ | with_reducible refine Below.setCell ?_ ?_ _ | with_reducible refine Below.drew ?_ | with_reducible refine below_drewN ?_ _)) <;> (first | omega | (simp; done) | (simp; omega))))
  refine ⟨⟨?_, ?_, by simp, by simp⟩, ⟨?_, ?_, by simp [go_sem], by simp [go_sem]⟩, hn, zz, by simp⟩
  · rw [World.cell?_alloc_lt _ _ _ zz]; exact (h1.1 _).trans (by simp)
  · rw [World.cell?_alloc_lt _ _ _ zz]; exact (h1.1 _).trans (by simp)
  · exact ((bk hb2 w.heap.size zz).2 _).trans ((h1.2 _).trans (by simp [go_sem]))
  · exact ((bk hb2 w.heap.size zz).2 _).trans ((h1.2 _).trans (by simp [go_sem]))
set_option maxRecDepth 100000 in
set_option maxHeartbeats 4000000 in
theorem PlMatches_any (w : World) (v0 : Value) (s : SiA) (hs : SiOk w v0 s) (va : Value) (sa : ScA) (ha : ScOk w va sa) (vb : Value) (sb : ScA) (hb : ScOk w vb sb) (v : Value) (pl : List Int) (hv : IsRow w v pl) (_wl : WfI pl) (x : Int) :
    Calls Tryz.prog 3 #[v0, va, vb, v, .int .i64 x] w fun e w' => e = .returned (.bool true) ∧ Below w.heap.size w w' := by
  obtain ⟨r, f, lo, tm, pv, ps⟩ := s
  obtain ⟨ua, la, ea⟩ := sa
  obtain ⟨ub, lb, eb⟩ := sb
  obtain ⟨rfl, hp, -, -⟩ := hs
  obtain ⟨rfl, ka, -, -⟩ := ha
  obtain ⟨rfl, kb, -, -⟩ := hb
  simp only at hp ka kb ⊢
  obtain ⟨pa, pc, rfl, -, -⟩ := hp.len
  obtain ⟨aa, ac, rfl, -, -, -⟩ := id ka
  obtain ⟨ba, bc, rfl, -, -, -⟩ := id kb
  obtain ⟨va, vc, rfl, -, -, -⟩ := id hv
  obtain ⟨W0, hW0⟩ : ∃ W : World, W = ((w.alloc (.cells #[.int .i64 r, .int .i64 f, .int .i64 lo, .int .i64 tm, .slice pa ps.length pc] 24)).alloc (.cells #[.slice aa la.length ac, .int .i64 ea] 27)).alloc (.cells #[.slice ba lb.length bc, .int .i64 eb] 27) := ⟨_, rfl⟩
  have hS : ∀ V : World, Below (w.heap.size + 3) W0 V → (V.cell? ⟨w.heap.size, 0, none⟩ = some (.int .i64 r) ∧ V.cell? ⟨w.heap.size, 1, none⟩ = some (.int .i64 f) ∧ V.cell? ⟨w.heap.size, 2, none⟩ = some (.int .i64 lo) ∧ V.cell? ⟨w.heap.size, 3, none⟩ = some (.int .i64 tm) ∧ V.cell? ⟨w.heap.size, 4, none⟩ = some (.slice pa ps.length pc)) ∧
      (V.cell? ⟨w.heap.size + 1, 0, none⟩ = some (.slice aa la.length ac) ∧ V.cell? ⟨w.heap.size + 1, 1, none⟩ = some (.int .i64 ea)) ∧ (V.cell? ⟨w.heap.size + 1 + 1, 0, none⟩ = some (.slice ba lb.length bc) ∧ V.cell? ⟨w.heap.size + 1 + 1, 1, none⟩ = some (.int .i64 eb)) ∧
      w.heap.size + 3 ≤ V.heap.size ∧ w.heap.size < V.heap.size ∧ PrRow V (.slice pa ps.length pc) ps ∧ IsRow V (.slice va pl.length vc) pl ∧ IsRow V (.slice aa la.length ac) la ∧ IsRow V (.slice ba lb.length bc) lb ∧ Below w.heap.size w V := by
    intro V hV
    have bW : Below w.heap.size w W0 := by rw [hW0]; ((repeat' (first | with_reducible exact Below.refl _ _ | with_reducible refine Below.alloc ?_ ?_ _ | with_reducible refine Below.setCell ?_ ?_ _ | with_reducible refine Below.drew ?_ | with_reducible refine below_drewN ?_ _)) <;> (first | omega | (simp; done) | (simp; omega)))
    have zW : W0.heap.size = w.heap.size + 3 := by rw [hW0]; simp
    have hb := bW.trans (hV.mono (by omega))
    have h0 := (bk hV w.heap.size (by omega)).1
    have h1 := (bk hV (w.heap.size + 1) (by omega)).1
    have h2 := (bk hV (w.heap.size + 1 + 1) (by omega)).1
    have q : W0.cell? ⟨w.heap.size, 0, none⟩ = some (.int .i64 r) ∧ W0.cell? ⟨w.heap.size, 1, none⟩ = some (.int .i64 f) ∧ W0.cell? ⟨w.heap.size, 2, none⟩ = some (.int .i64 lo) ∧ W0.cell? ⟨w.heap.size, 3, none⟩ = some (.int .i64 tm) ∧ W0.cell? ⟨w.heap.size, 4, none⟩ = some (.slice pa ps.length pc) ∧ W0.cell? ⟨w.heap.size + 1, 0, none⟩ = some (.slice aa la.length ac) ∧ W0.cell? ⟨w.heap.size + 1, 1, none⟩ = some (.int .i64 ea) ∧ W0.cell? ⟨w.heap.size + 1 + 1, 0, none⟩ = some (.slice ba lb.length bc) ∧ W0.cell? ⟨w.heap.size + 1 + 1, 1, none⟩ = some (.int .i64 eb) := by
      rw [hW0]; refine ⟨?_, ?_, ?_, ?_, ?_, ?_, ?_, ?_, ?_⟩ <;> simp [go_sem]
    obtain ⟨q0, q1, q2, q3, q4, q5, q6, q7, q8⟩ := q
    exact ⟨⟨(h0 0).trans q0, (h0 1).trans q1, (h0 2).trans q2, (h0 3).trans q3, (h0 4).trans q4⟩, ⟨(h1 0).trans q5, (h1 1).trans q6⟩, ⟨(h2 0).trans q7, (h2 1).trans q8⟩, by have := hV.size; omega, by have := hV.size; omega, hp.below (Nat.le_refl _) hb, hv.below (Nat.le_refl _) hb, ka.below (Nat.le_refl _) hb, kb.below (Nat.le_refl _) hb, hb⟩
  have HS := hide hS
  clear hS hp hv ka kb
  cases q0 : fewB30 ps.length pl.length with
  | false =>
    go_enter Tryz.func3, Tryz.ntmps3
    go_upto_region 1 with fail
    rw [← hW0]
    clear hW0
    have B0 : Below (w.heap.size + 3) W0 W0 := Below.refl _ _
    obtain ⟨⟨y0, y1, y2, y3, y4⟩, ⟨a0, a1⟩, ⟨b0, b1⟩, yz, yq, -⟩ := HS.out W0 B0
    go_wp2_with fail
    refine (plHead_any _).mono ?_
    rintro e w1 ⟨rfl, k1⟩
    have B1 : Below (w.heap.size + 3) W0 w1 := B0.trans (k1.mono yz)
    clear y0 y1 y2 y3 y4 a0 a1 b0 b1 yz yq k1 B0
    obtain ⟨⟨y0, y1, y2, y3, y4⟩, ⟨a0, a1⟩, ⟨b0, b1⟩, yz, yq, -⟩ := HS.out w1 B1
    go_wp2_with fail
    refine (R30Few_any r f lo tm _ ps _ pl _ (HS.out _ B1).2.2.2.2.2.1 (HS.out _ B1).2.2.2.2.2.2.1).mono ?_
    rintro e w2 ⟨rfl, k2⟩
    rw [q0]
    have B2 : Below (w.heap.size + 3) W0 w2 := B1.trans (k2.mono yz)
    clear y0 y1 y2 y3 y4 a0 a1 b0 b1 yz yq k2 B1
    obtain ⟨⟨y0, y1, y2, y3, y4⟩, ⟨a0, a1⟩, ⟨b0, b1⟩, yz, yq, -⟩ := HS.out w2 B2
    go_wp2_with fail
    go_ret
    exact ⟨rfl, (HS.out _ B2).2.2.2.2.2.2.2.2.2⟩
  | true =>
    cases q1 : decide (ps.length ≤ 20 ∧ la.length ≤ 20) with
    | false =>
      go_enter Tryz.func3, Tryz.ntmps3
      go_upto_region 1 with fail
      rw [← hW0]
      clear hW0
      have B0 : Below (w.heap.size + 3) W0 W0 := Below.refl _ _
      obtain ⟨⟨y0, y1, y2, y3, y4⟩, ⟨a0, a1⟩, ⟨b0, b1⟩, yz, yq, -⟩ := HS.out W0 B0
      go_wp2_with fail
      refine (plHead_any _).mono ?_
      rintro e w1 ⟨rfl, k1⟩
      have B1 : Below (w.heap.size + 3) W0 w1 := B0.trans (k1.mono yz)
      clear y0 y1 y2 y3 y4 a0 a1 b0 b1 yz yq k1 B0
      obtain ⟨⟨y0, y1, y2, y3, y4⟩, ⟨a0, a1⟩, ⟨b0, b1⟩, yz, yq, -⟩ := HS.out w1 B1
      go_wp2_with fail
      refine (R30Few_any r f lo tm _ ps _ pl _ (HS.out _ B1).2.2.2.2.2.1 (HS.out _ B1).2.2.2.2.2.2.1).mono ?_
      rintro e w2 ⟨rfl, k2⟩
      rw [q0]
      have B2 : Below (w.heap.size + 3) W0 w2 := B1.trans (k2.mono yz)
      clear y0 y1 y2 y3 y4 a0 a1 b0 b1 yz yq k2 B1
      obtain ⟨⟨y0, y1, y2, y3, y4⟩, ⟨a0, a1⟩, ⟨b0, b1⟩, yz, yq, -⟩ := HS.out w2 B2
      go_wp2_with fail
      refine (R29Few_any r f lo tm _ ps _ la ea _ (HS.out _ B2).2.2.2.2.2.1 (HS.out _ B2).2.2.2.2.2.2.2.1).mono ?_
      rintro e w3 ⟨rfl, k3⟩
      rw [q1]
      have B3 : Below (w.heap.size + 3) W0 w3 := B2.trans (k3.mono yz)
      clear y0 y1 y2 y3 y4 a0 a1 b0 b1 yz yq k3 B2
      obtain ⟨⟨y0, y1, y2, y3, y4⟩, ⟨a0, a1⟩, ⟨b0, b1⟩, yz, yq, -⟩ := HS.out w3 B3
      go_wp2_with fail
      go_ret
      exact ⟨rfl, (HS.out _ B3).2.2.2.2.2.2.2.2.2⟩
    | true =>
      cases q2 : decide (ps.length ≤ 20 ∧ lb.length ≤ 20) with
      | false =>
        go_enter Tryz.func3, Tryz.ntmps3
        go_upto_region 1 with fail
        rw [← hW0]
        clear hW0
        have B0 : Below (w.heap.size + 3) W0 W0 := Below.refl _ _
        obtain ⟨⟨y0, y1, y2, y3, y4⟩, ⟨a0, a1⟩, ⟨b0, b1⟩, yz, yq, -⟩ := HS.out W0 B0
        go_wp2_with fail
        refine (plHead_any _).mono ?_
        rintro e w1 ⟨rfl, k1⟩
        have B1 : Below (w.heap.size + 3) W0 w1 := B0.trans (k1.mono yz)
        clear y0 y1 y2 y3 y4 a0 a1 b0 b1 yz yq k1 B0
        obtain ⟨⟨y0, y1, y2, y3, y4⟩, ⟨a0, a1⟩, ⟨b0, b1⟩, yz, yq, -⟩ := HS.out w1 B1
        go_wp2_with fail
        refine (R30Few_any r f lo tm _ ps _ pl _ (HS.out _ B1).2.2.2.2.2.1 (HS.out _ B1).2.2.2.2.2.2.1).mono ?_
        rintro e w2 ⟨rfl, k2⟩
        rw [q0]
        have B2 : Below (w.heap.size + 3) W0 w2 := B1.trans (k2.mono yz)
        clear y0 y1 y2 y3 y4 a0 a1 b0 b1 yz yq k2 B1
        obtain ⟨⟨y0, y1, y2, y3, y4⟩, ⟨a0, a1⟩, ⟨b0, b1⟩, yz, yq, -⟩ := HS.out w2 B2
        go_wp2_with fail
        refine (R29Few_any r f lo tm _ ps _ la ea _ (HS.out _ B2).2.2.2.2.2.1 (HS.out _ B2).2.2.2.2.2.2.2.1).mono ?_
        rintro e w3 ⟨rfl, k3⟩
        rw [q1]
        have B3 : Below (w.heap.size + 3) W0 w3 := B2.trans (k3.mono yz)
        clear y0 y1 y2 y3 y4 a0 a1 b0 b1 yz yq k3 B2
        obtain ⟨⟨y0, y1, y2, y3, y4⟩, ⟨a0, a1⟩, ⟨b0, b1⟩, yz, yq, -⟩ := HS.out w3 B3
        go_wp2_with fail
        refine (R29Few_any r f lo tm _ ps _ lb eb _ (HS.out _ B3).2.2.2.2.2.1 (HS.out _ B3).2.2.2.2.2.2.2.2.1).mono ?_
        rintro e w4 ⟨rfl, k4⟩
        rw [q2]
        have B4 : Below (w.heap.size + 3) W0 w4 := B3.trans (k4.mono yz)
        clear y0 y1 y2 y3 y4 a0 a1 b0 b1 yz yq k4 B3
        obtain ⟨⟨y0, y1, y2, y3, y4⟩, ⟨a0, a1⟩, ⟨b0, b1⟩, yz, yq, -⟩ := HS.out w4 B4
        go_wp2_with fail
        go_ret
        exact ⟨rfl, (HS.out _ B4).2.2.2.2.2.2.2.2.2⟩
      | true =>
        have n1 : la.length ≤ 1000000 := by have := of_decide_eq_true q1; omega
        have n2 : lb.length ≤ 1000000 := by have := of_decide_eq_true q2; omega
        go_enter Tryz.func3, Tryz.ntmps3
        go_upto_region 1 with fail
        rw [← hW0]
        clear hW0
        have B0 : Below (w.heap.size + 3) W0 W0 := Below.refl _ _
        obtain ⟨⟨y0, y1, y2, y3, y4⟩, ⟨a0, a1⟩, ⟨b0, b1⟩, yz, yq, -⟩ := HS.out W0 B0
        go_wp2_with fail
        refine (plHead_any _).mono ?_
        rintro e w1 ⟨rfl, k1⟩
        have B1 : Below (w.heap.size + 3) W0 w1 := B0.trans (k1.mono yz)
        clear y0 y1 y2 y3 y4 a0 a1 b0 b1 yz yq k1 B0
        obtain ⟨⟨y0, y1, y2, y3, y4⟩, ⟨a0, a1⟩, ⟨b0, b1⟩, yz, yq, -⟩ := HS.out w1 B1
        go_wp2_with fail
        refine (R30Few_any r f lo tm _ ps _ pl _ (HS.out _ B1).2.2.2.2.2.1 (HS.out _ B1).2.2.2.2.2.2.1).mono ?_
        rintro e w2 ⟨rfl, k2⟩
        rw [q0]
        have B2 : Below (w.heap.size + 3) W0 w2 := B1.trans (k2.mono yz)
        clear y0 y1 y2 y3 y4 a0 a1 b0 b1 yz yq k2 B1
        obtain ⟨⟨y0, y1, y2, y3, y4⟩, ⟨a0, a1⟩, ⟨b0, b1⟩, yz, yq, -⟩ := HS.out w2 B2
        go_wp2_with fail
        refine (R29Few_any r f lo tm _ ps _ la ea _ (HS.out _ B2).2.2.2.2.2.1 (HS.out _ B2).2.2.2.2.2.2.2.1).mono ?_
        rintro e w3 ⟨rfl, k3⟩
        rw [q1]
        have B3 : Below (w.heap.size + 3) W0 w3 := B2.trans (k3.mono yz)
        clear y0 y1 y2 y3 y4 a0 a1 b0 b1 yz yq k3 B2
        obtain ⟨⟨y0, y1, y2, y3, y4⟩, ⟨a0, a1⟩, ⟨b0, b1⟩, yz, yq, -⟩ := HS.out w3 B3
        go_wp2_with fail
        refine (R29Few_any r f lo tm _ ps _ lb eb _ (HS.out _ B3).2.2.2.2.2.1 (HS.out _ B3).2.2.2.2.2.2.2.2.1).mono ?_
        rintro e w4 ⟨rfl, k4⟩
        rw [q2]
        have B4 : Below (w.heap.size + 3) W0 w4 := B3.trans (k4.mono yz)
        clear y0 y1 y2 y3 y4 a0 a1 b0 b1 yz yq k4 B3
        obtain ⟨⟨y0, y1, y2, y3, y4⟩, ⟨a0, a1⟩, ⟨b0, b1⟩, yz, yq, -⟩ := HS.out w4 B4
        go_wp2_with fail
        refine (Cheaper_any r f lo tm _ ps _ la ea _ lb eb _ (HS.out _ B4).2.2.2.2.2.1 (HS.out _ B4).2.2.2.2.2.2.2.1 (HS.out _ B4).2.2.2.2.2.2.2.2.1).mono ?_
        rintro e w5 ⟨rfl, k5⟩
        have B5 : Below (w.heap.size + 3) W0 w5 := B4.trans (k5.mono yz)
        clear y0 y1 y2 y3 y4 a0 a1 b0 b1 yz yq k5 B4
        obtain ⟨⟨y0, y1, y2, y3, y4⟩, ⟨a0, a1⟩, ⟨b0, b1⟩, yz, yq, -⟩ := HS.out w5 B5
        go_wp2_with fail
        refine (RCheaper_any r f lo tm _ ps _ la ea _ lb eb _ (HS.out _ B5).2.2.2.2.2.1 (HS.out _ B5).2.2.2.2.2.2.2.1 (HS.out _ B5).2.2.2.2.2.2.2.2.1 n1 n2).mono ?_
        rintro e w6 ⟨rfl, k6⟩
        have B6 : Below (w.heap.size + 3) W0 w6 := B5.trans (k6.mono yz)
        generalize chB ⟨r, f, lo, tm, ps⟩ la ea lb eb = X1 at *
        generalize chE ⟨r, f, lo, tm, ps⟩ la ea lb eb = X2 at *
        clear y0 y1 y2 y3 y4 a0 a1 b0 b1 yz yq k6 B5
        obtain ⟨⟨y0, y1, y2, y3, y4⟩, ⟨a0, a1⟩, ⟨b0, b1⟩, yz, yq, -⟩ := HS.out w6 B6
        go_wp2_with fail
        refine (plB_any r f lo tm _ ps _ pl x _ (HS.out _ B6).2.2.2.2.2.1 (HS.out _ B6).2.2.2.2.2.2.1).mono ?_
        rintro e w7 ⟨uv, rfl, hrow, hown, k7⟩
        have B7 : Below (w.heap.size + 3) W0 w7 := B6.trans (k7.mono yz)
        obtain ⟨u1, c1, huv, -⟩ := id hrow
        subst huv
        clear hown
        clear y0 y1 y2 y3 y4 a0 a1 b0 b1 yz yq k7 B6
        obtain ⟨⟨y0, y1, y2, y3, y4⟩, ⟨a0, a1⟩, ⟨b0, b1⟩, yz, yq, -⟩ := HS.out w7 B7
        go_wp2_with fail
        have hz7 : w.heap.size + 3 ≤ w7.heap.size := yz
        have rowB : IsRow (w7.alloc (.cells #[.slice u1 (accO (bsO ⟨r, f, lo, tm, ps⟩ pl x)).use.length c1, .int .i64 (accO (bsO ⟨r, f, lo, tm, ps⟩ pl x)).ev] 27)) (.slice u1 (accO (bsO ⟨r, f, lo, tm, ps⟩ pl x)).use.length c1) (accO (bsO ⟨r, f, lo, tm, ps⟩ pl x)).use := hrow.below (Nat.le_refl _) (by ((repeat' (first | with_reducible exact Below.refl _ _ | with_reducible refine Below.alloc ?_ ?_ _ | with_reducible refine Below.setCell ?_ ?_ _ | with_reducible refine Below.drew ?_ | with_reducible refine below_drewN ?_ _)) <;> (first | omega | (simp; done) | (simp; omega))))
        have BB : Below (w.heap.size + 3) W0 (w7.alloc (.cells #[.slice u1 (accO (bsO ⟨r, f, lo, tm, ps⟩ pl x)).use.length c1, .int .i64 (accO (bsO ⟨r, f, lo, tm, ps⟩ pl x)).ev] 27)) := B7.trans (Below.mono (B := w7.heap.size) (by ((repeat' (first | with_reducible exact Below.refl _ _ | with_reducible refine Below.alloc ?_ ?_ _ | with_reducible refine Below.setCell ?_ ?_ _ | with_reducible refine Below.drew ?_ | with_reducible refine below_drewN ?_ _)) <;> (first | omega | (simp; done) | (simp; omega)))) yz)
        clear y0 y1 y2 y3 y4 a0 a1 b0 b1 yz yq hrow
        obtain ⟨⟨y0, y1, y2, y3, y4⟩, ⟨a0, a1⟩, ⟨b0, b1⟩, yz, yq, -⟩ := HS.out _ BB
        refine (RB_any r f lo tm _ ps _ pl x _ (HS.out _ BB).2.2.2.2.2.1 (HS.out _ BB).2.2.2.2.2.2.1).mono ?_
        rintro e w8 ⟨uv2, rfl, hrow2, hown2, k8⟩
        have B8 : Below (w.heap.size + 3) W0 w8 := BB.trans (k8.mono yz)
        obtain ⟨u2, c2, huv, -⟩ := id hrow2
        subst huv
        clear hown2
        have rowB2 := rowB.below (Nat.le_refl _) k8
        have kk := C4.made (v := .slice u2 (accO (bsO ⟨r, f, lo, tm, ps⟩ pl x)).use.length c2) (d := (accO (bsO ⟨r, f, lo, tm, ps⟩ pl x)).ev) (t' := 27) hz7 k8
        clear rowB
        have cb := bk k8 w7.heap.size (by simp)
        have cb0 := (cb.1 0).trans (show (w7.alloc (.cells #[.slice u1 (accO (bsO ⟨r, f, lo, tm, ps⟩ pl x)).use.length c1, .int .i64 (accO (bsO ⟨r, f, lo, tm, ps⟩ pl x)).ev] 27)).cell? ⟨w7.heap.size, 0, none⟩ = some (.slice u1 (accO (bsO ⟨r, f, lo, tm, ps⟩ pl x)).use.length c1) by simp)
        have cb1 := (cb.1 1).trans (show (w7.alloc (.cells #[.slice u1 (accO (bsO ⟨r, f, lo, tm, ps⟩ pl x)).use.length c1, .int .i64 (accO (bsO ⟨r, f, lo, tm, ps⟩ pl x)).ev] 27)).cell? ⟨w7.heap.size, 1, none⟩ = some (.int .i64 (accO (bsO ⟨r, f, lo, tm, ps⟩ pl x)).ev) by simp)
        have cbz := kk.2.2.2.1
        clear cb
        clear y0 y1 y2 y3 y4 a0 a1 b0 b1 yz yq k8 BB
        obtain ⟨⟨y0, y1, y2, y3, y4⟩, ⟨a0, a1⟩, ⟨b0, b1⟩, yz, yq, -⟩ := HS.out w8 B8
        go_wp2_with fail
        have bb : Below w8.heap.size w8 (w8.alloc (.cells #[.slice u2 (accO (bsO ⟨r, f, lo, tm, ps⟩ pl x)).use.length c2, .int .i64 (accO (bsO ⟨r, f, lo, tm, ps⟩ pl x)).ev] 27)) := (by ((repeat' (first | with_reducible exact Below.refl _ _ | with_reducible refine Below.alloc ?_ ?_ _ | with_reducible refine Below.setCell ?_ ?_ _ | with_reducible refine Below.drew ?_ | with_reducible refine below_drewN ?_ _)) <;> (first | omega | (simp; done) | (simp; omega))))
        have BC : Below (w.heap.size + 3) W0 (w8.alloc (.cells #[.slice u2 (accO (bsO ⟨r, f, lo, tm, ps⟩ pl x)).use.length c2, .int .i64 (accO (bsO ⟨r, f, lo, tm, ps⟩ pl x)).ev] 27)) := B8.trans (bb.mono yz)
        have rw1 := rowB2.below (Nat.le_refl _) bb
        have rw2 := hrow2.below (Nat.le_refl _) bb
        clear bb rowB2 hrow2 y0 y1 y2 y3 y4 a0 a1 b0 b1 yz yq B8 cb0 cb1 cbz
        generalize (accO (bsO ⟨r, f, lo, tm, ps⟩ pl x)).ev = E3 at *
        generalize (accO (bsO ⟨r, f, lo, tm, ps⟩ pl x)).use = U3 at *
        generalize (bsO ⟨r, f, lo, tm, ps⟩ pl x).isSome = I3 at *
        generalize bsE ⟨r, f, lo, tm, ps⟩ pl x = J3 at *
        obtain ⟨gd, hgd⟩ : ∃ g, g = w8.heap.size := ⟨_, rfl⟩
        rw [← hgd] at kk ⊢
        obtain ⟨gb, hgb⟩ : ∃ g, g = w7.heap.size := ⟨_, rfl⟩
        rw [← hgb] at kk ⊢
        clear hgd hgb hz7
        generalize w8.alloc (.cells #[.slice u2 U3.length c2, .int .i64 E3] 27) = wc at *
        obtain ⟨⟨y0, y1, y2, y3, y4⟩, ⟨a0, a1⟩, ⟨b0, b1⟩, yz, yq, -⟩ := HS.out wc BC
        refine (Same_any _ _ U3 U3 E3 E3 _ rw1 rw2).mono ?_
        rintro e w9 ⟨rfl, k9⟩
        have B9 : Below (w.heap.size + 3) W0 w9 := BC.trans (k9.mono yz)
        have tkk := kk.below k9
        clear kk
        have kk := tkk
        clear tkk
        rw [show decide (E3 = E3 ∧ U3 = U3) = true from decide_eq_true ⟨rfl, rfl⟩]
        clear rw1 rw2
        clear y0 y1 y2 y3 y4 a0 a1 b0 b1 yz yq k9 BC
        obtain ⟨⟨y0, y1, y2, y3, y4⟩, ⟨a0, a1⟩, ⟨b0, b1⟩, yz, yq, -⟩ := HS.out w9 B9
        go_wp2_with fail
        refine (plN_any r f lo tm _ ps _ pl _ (HS.out _ B9).2.2.2.2.2.1 (HS.out _ B9).2.2.2.2.2.2.1).mono ?_
        rintro e w10 ⟨uv3, rfl, hrow3, hown3, k10⟩
        have B10 : Below (w.heap.size + 3) W0 w10 := B9.trans (k10.mono yz)
        have kk0 := kk.2.2
        have tkk := kk.below k10
        clear kk
        have kk := tkk
        clear tkk
        obtain ⟨u3, c3, huv, -⟩ := id hrow3
        subst huv
        have hlt10 := kk0
        clear y0 y1 y2 y3 y4 a0 a1 b0 b1 yz yq k10 B9
        obtain ⟨⟨y0, y1, y2, y3, y4⟩, ⟨a0, a1⟩, ⟨b0, b1⟩, yz, yq, -⟩ := HS.out w10 B10
        have hz3 := kk.2.2
        have HO3 : ∀ q, (Value.slice u3 (accO (nwO ⟨r, f, lo, tm, ps⟩ pl)).use.length c3).ownBlock = some q → q ≠ gb ∧ q ≠ gd := fun q hq => by have := hown3 q hq; have := hlt10 ; omega
        clear hown3 kk0 hlt10
        obtain ⟨⟨m0, m1, m2, m3⟩, ⟨f0, f1, f2, f3⟩, h1, h2, h3⟩ := id kk
        have hgw : gb < w10.heap.size := by omega
        go_wp2_with fail
        have kk4 := kk.putB (.slice u3 (accO (nwO ⟨r, f, lo, tm, ps⟩ pl)).use.length c3) (accO (nwO ⟨r, f, lo, tm, ps⟩ pl)).ev
        have rw3 := isrow_set (isrow_set hrow3 ⟨gb, 0, none⟩ (.slice u3 (accO (nwO ⟨r, f, lo, tm, ps⟩ pl)).use.length c3) fun _ q hq => (HO3 q hq).1) ⟨gb, 1, none⟩ (.int .i64 (accO (nwO ⟨r, f, lo, tm, ps⟩ pl)).ev) fun _ q hq => (HO3 q hq).1
        have BD := (B10.setCell (p := ⟨gb, 0, none⟩) h1 (.slice u3 (accO (nwO ⟨r, f, lo, tm, ps⟩ pl)).use.length c3)).setCell (p := ⟨gb, 1, none⟩) h1 (.int .i64 (accO (nwO ⟨r, f, lo, tm, ps⟩ pl)).ev)
        clear kk hrow3 m0 m1 m2 m3 f0 f1 f2 f3 h1 h2 h3 hz3 hgw y0 y1 y2 y3 y4 a0 a1 b0 b1 yz yq B10
        generalize ((w10.setCell ⟨gb, 0, none⟩ _).setCell ⟨gb, 1, none⟩ _) = wd at *
        obtain ⟨⟨y0, y1, y2, y3, y4⟩, ⟨a0, a1⟩, ⟨b0, b1⟩, yz, yq, -⟩ := HS.out wd BD
        refine (RN_any r f lo tm _ ps _ pl _ (HS.out _ BD).2.2.2.2.2.1 (HS.out _ BD).2.2.2.2.2.2.1).mono ?_
        rintro e w11 ⟨uv4, rfl, hrow4, hown4, k11⟩
        have B11 : Below (w.heap.size + 3) W0 w11 := BD.trans (k11.mono yz)
        have kk40 := kk4.2.2
        have tkk4 := kk4.below k11
        clear kk4
        have kk4 := tkk4
        clear tkk4
        obtain ⟨u4, c4, huv, -⟩ := id hrow4
        subst huv
        have rw3' := rw3.below (Nat.le_refl _) k11
        clear rw3
        have hlt5 := kk40
        clear y0 y1 y2 y3 y4 a0 a1 b0 b1 yz yq k11 BD
        obtain ⟨⟨y0, y1, y2, y3, y4⟩, ⟨a0, a1⟩, ⟨b0, b1⟩, yz, yq, -⟩ := HS.out w11 B11
        have HO4 : ∀ q, (Value.slice u4 (accO (nwO ⟨r, f, lo, tm, ps⟩ pl)).use.length c4).ownBlock = some q → q ≠ gd := fun q hq => by have := hown4 q hq; omega
        clear hown4 kk40 hlt5
        obtain ⟨⟨m0, m1, m2, m3⟩, ⟨f0, f1, f2, f3⟩, h1, h2, h3⟩ := id kk4
        go_wp2_with fail
        have kk5 := kk4.putD (.slice u4 (accO (nwO ⟨r, f, lo, tm, ps⟩ pl)).use.length c4) (accO (nwO ⟨r, f, lo, tm, ps⟩ pl)).ev
        have rw4 := isrow_set (isrow_set hrow4 ⟨gd, 0, none⟩ (.slice u4 (accO (nwO ⟨r, f, lo, tm, ps⟩ pl)).use.length c4) fun _ q hq => HO4 q hq) ⟨gd, 1, none⟩ (.int .i64 (accO (nwO ⟨r, f, lo, tm, ps⟩ pl)).ev) fun _ q hq => HO4 q hq
        have rw5 := isrow_set (isrow_set rw3' ⟨gd, 0, none⟩ (.slice u4 (accO (nwO ⟨r, f, lo, tm, ps⟩ pl)).use.length c4) fun _ q hq => (HO3 q hq).2) ⟨gd, 1, none⟩ (.int .i64 (accO (nwO ⟨r, f, lo, tm, ps⟩ pl)).ev) fun _ q hq => (HO3 q hq).2
        have hgd : w.heap.size + 3 ≤ gd := by omega
        have BE := (B11.setCell (p := ⟨gd, 0, none⟩) hgd (.slice u4 (accO (nwO ⟨r, f, lo, tm, ps⟩ pl)).use.length c4)).setCell (p := ⟨gd, 1, none⟩) hgd (.int .i64 (accO (nwO ⟨r, f, lo, tm, ps⟩ pl)).ev)
        clear kk4 hrow4 rw3' m0 m1 m2 m3 f0 f1 f2 f3 h1 h2 h3 y0 y1 y2 y3 y4 a0 a1 b0 b1 yz yq B11 hgd
        generalize ((w11.setCell ⟨gd, 0, none⟩ _).setCell ⟨gd, 1, none⟩ _) = we at *
        generalize (accO (nwO ⟨r, f, lo, tm, ps⟩ pl)).ev = E4 at *
        generalize (accO (nwO ⟨r, f, lo, tm, ps⟩ pl)).use = U4 at *
        generalize (accO (nwO ⟨r, f, lo, tm, ps⟩ pl)).wd = D4 at *
        generalize nwE ⟨r, f, lo, tm, ps⟩ pl = J4 at *
        obtain ⟨⟨y0, y1, y2, y3, y4⟩, ⟨a0, a1⟩, ⟨b0, b1⟩, yz, yq, -⟩ := HS.out we BE
        refine (Same_any _ _ U4 U4 E4 E4 _ rw5 rw4).mono ?_
        rintro e w12 ⟨rfl, k12⟩
        have B12 : Below (w.heap.size + 3) W0 w12 := BE.trans (k12.mono yz)
        rw [show decide (E4 = E4 ∧ U4 = U4) = true from decide_eq_true ⟨rfl, rfl⟩]
        clear y0 y1 y2 y3 y4 a0 a1 b0 b1 yz yq k12 BE
        obtain ⟨⟨y0, y1, y2, y3, y4⟩, ⟨a0, a1⟩, ⟨b0, b1⟩, yz, yq, -⟩ := HS.out w12 B12
        go_wp2_with fail
        go_ret
        exact ⟨rfl, (HS.out _ B12).2.2.2.2.2.2.2.2.2⟩
set_option maxRecDepth 100000 in
theorem planMatchesReference_holds : Rows.PlanMatchesReferenceSaid :=
  OpenClaim.holds_of_wide 3 Tryz.f3 rfl rfl rfl rfl rfl rfl rfl ⟨rfl, rfl, rfl, rfl, rfl⟩ rfl rfl rfl rfl rfl (by kernel_rfl) Tryz.func3 (by kernel_rfl)
    (of_decide_eq_true (by kernel_rfl)) (by unfold Func.isWrapper; rw [if_neg (of_decide_eq_false (by kernel_rfl))]; exact ⟨rfl, rfl⟩)
    (fun os started H enc _ => law_lifted started 3 Tryz.f3 Tryz.func3 (by kernel_rfl) Rows.planMatchesReferenceSpec rfl rfl
      (fun ds h => by match ds, h with | [_, _, _, _, _], _ => exact ⟨rfl, rfl, rfl⟩)
      (fun t h => by
        rw [Tryz.params3] at h
        simp only [List.mem_cons, List.not_mem_nil, or_false] at h
        rcases h with rfl | rfl | rfl | rfl | rfl <;> exact ⟨by kernel_rfl, of_decide_eq_true (by kernel_rfl)⟩)
      (ChangeSpec.witness6 (enc := enc) (C := Tryz.checked) false ⟨#[], #[.agg #[.int .i64 0, .int .i64 0, .int .i64 0, .int .i64 0, .slice none 0 0], .agg #[.slice none 0 0, .int .i64 0], .agg #[.slice none 0 0, .int .i64 0], .slice none 0 0, .int .i64 0], []⟩ 8 (by kernel_rfl) (by kernel_rfl) (by kernel_rfl) (by kernel_rfl))
      (fun W base args ds p hA hok => by
        rw [Tryz.params3] at hA hok
        obtain ⟨v0, vs0, d0, ds0, p0, q0, hargs, rfl, rfl, h0, r0⟩ := ChangeShapes.trodAll_cons hA
        obtain ⟨v1, vs1, d1, ds1, p1, q1, rfl, rfl, rfl, h1, r1⟩ := ChangeShapes.trodAll_cons r0
        obtain ⟨v2, vs2, d2, ds2, p2, q2, rfl, rfl, rfl, h2, r2⟩ := ChangeShapes.trodAll_cons r1
        obtain ⟨v3, vs3, d3, ds3, p3, q3, rfl, rfl, rfl, h3, r3⟩ := ChangeShapes.trodAll_cons r2
        obtain ⟨v4, vs4, d4, ds4, p4, q4, rfl, rfl, rfl, h4, r4⟩ := ChangeShapes.trodAll_cons r3
        obtain ⟨rfl, rfl, rfl⟩ := ChangeShapes.trodAll_nil r4
        obtain rfl : args = #[v0, v1, v2, v3, v4] := by rw [← Array.toArray_toList (xs := args), hargs]
        obtain ⟨l0, hl0⟩ := open_site (hok 0 _ v0 rfl rfl) h0
        obtain ⟨l1, hl1⟩ := open_sched (hok 1 _ v1 rfl rfl) h1
        obtain ⟨l2, hl2⟩ := open_sched (hok 2 _ v2 rfl rfl) h2
        obtain ⟨l3, hl3, wl3⟩ := open_is (hok 3 _ v3 rfl rfl) h3
        obtain ⟨x4, rfl, hx4⟩ := open_i64 Tryz.underlying3 (hok 4 _ v4 rfl rfl) h4
        exact PlMatches_any W v0 l0 hl0 v1 l1 hl1 v2 l2 hl2 v3 l3 hl3 wl3 x4))
end Go.Proofs.YtiaahfccebmkdaaGreat
