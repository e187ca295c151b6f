/- The examples of the chapter on outliers: the check that stands in every statement answers true. -/
import Derived.Test.YtodkmbjhdckjiaaDoorOuM
namespace Go.Proofs.YtodkmbjhdckjiaaDoor
open Go.RowKit Go.Shelf
attribute [local go_sem ↓] run_max_mx run_min_mn run_eql_iv run_neq_iv
theorem ivrow_lit (w : World) (c : List Iv) (t : TypeId) (hc : c.length ≤ 9223372036854775807) : IvRow (w.alloc (.cells (encL c).toArray t)) (.slice (some ⟨w.heap.size, 0, none⟩) c.length c.length) c := by
  refine ⟨_, _, rfl, Nat.le_refl _, hc, fun i hi => ⟨_, 0, rfl, by simp, ?_, ?_⟩⟩
  · rw [Nat.zero_add, World.cell?_alloc_new]; simpa using (encL_at c i hi).1
  · rw [Nat.zero_add, World.cell?_alloc_new]; simpa using (encL_at c i hi).2
/-- A first part of a slice that came in. -/
theorem ivrow_take {w : World} {b off n cap m : Nat} {c : List Iv} (h : IvRow w (.slice (some ⟨b, off, none⟩) n cap) c) (hm : m ≤ n) : IvRow w (.slice (some ⟨b, off, none⟩) m cap) (c.take m) := by
  obtain ⟨a, cap', e, h1, h2, h3⟩ := h
  simp only [Value.slice.injEq] at e
  obtain ⟨rfl, rfl, rfl⟩ := e
  refine ⟨some ⟨b, off, none⟩, cap, by simp [Nat.min_eq_left hm], by simp; omega, h2, fun i hi => ?_⟩
  simp only [List.length_take] at hi
  obtain ⟨b', off', e, h4, h5, h6⟩ := h3 i (by omega)
  refine ⟨b', off', e, h4, ?_, ?_⟩
  · rw [h5]; simp [iLo, List.getD_eq_getElem?_getD, show i < m by omega]
  · rw [h6]; simp [iHi, List.getD_eq_getElem?_getD, show i < m by omega]
theorem rrow_lit1 (w : World) (c : List Int) (t t' : TypeId) (hc : c.length ≤ 1000) :
    RrRow ((w.alloc (.cells (encI c).toArray t)).alloc (.cells #[.slice (some ⟨w.heap.size, 0, none⟩) c.length c.length] t')) (.slice (some ⟨w.heap.size + 1, 0, none⟩) 1 1) [c] := by
  have h := isrow_lit w c t (by omega)
  refine ⟨_, 1, rfl, Nat.le_refl _, by omega, fun i hi => ⟨w.heap.size + 1, 0, .slice (some ⟨w.heap.size, 0, none⟩) c.length c.length, rfl, by simp, ?_, ?_⟩⟩
  · simp only [List.length_cons, List.length_nil] at hi
    obtain rfl : i = 0 := by omega
    simp [go_sem]
  · simp only [List.length_cons, List.length_nil] at hi
    obtain rfl : i = 0 := by omega
    exact h.below (Nat.le_refl _) ((Below.refl _ _).alloc (Nat.le_refl _) _)
theorem rrow_lit2 (w : World) (c d : List Int) (t t' : TypeId) (hc : c.length ≤ 1000) (hd : d.length ≤ 1000) :
    RrRow (((w.alloc (.cells (encI c).toArray t)).alloc (.cells (encI d).toArray t)).alloc (.cells #[.slice (some ⟨w.heap.size, 0, none⟩) c.length c.length, .slice (some ⟨w.heap.size + 1, 0, none⟩) d.length d.length] t')) (.slice (some ⟨w.heap.size + 2, 0, none⟩) 2 2) [c, d] := by
  have h1 := (isrow_lit w c t (by omega)).below (Nat.le_refl _) ((Below.refl _ _).alloc (Nat.le_refl _) (.cells (encI d).toArray t))
  have h2 := isrow_lit (w.alloc (.cells (encI c).toArray t)) d t (by omega)
  rw [World.size_alloc] at h2
  have b2 := (Below.refl ((w.alloc (.cells (encI c).toArray t)).alloc (.cells (encI d).toArray t)).heap.size ((w.alloc (.cells (encI c).toArray t)).alloc (.cells (encI d).toArray t))).alloc (Nat.le_refl _) (.cells #[.slice (some ⟨w.heap.size, 0, none⟩) c.length c.length, .slice (some ⟨w.heap.size + 1, 0, none⟩) d.length d.length] t')
  refine ⟨_, 2, rfl, Nat.le_refl _, by omega, fun i hi => ?_⟩
  simp only [List.length_cons, List.length_nil] at hi
  rcases Nat.eq_zero_or_pos i with h0 | h0
  · subst h0
    exact ⟨w.heap.size + 2, 0, _, rfl, by simp, by simp [go_sem], h1.below (Nat.le_refl _) b2⟩
  · obtain rfl : i = 1 := by omega
    exact ⟨w.heap.size + 2, 0, _, rfl, by simp, by simp [go_sem], h2.below (Nat.le_refl _) b2⟩
def hd4 : List Iv := [(0, 4), (3, 9), (8, 12), (9, 10)]
def hd3 : List Iv := [(0, 4), (3, 9), (8, 12)]
theorem hd4_vals : ouOk hd4 = true ∧ ouEr hd4 = 0 ∧ lst hd4 = 1 ∧ setsL hd4 = [[0]] ∧ sureL hd4 = [0] := by decide
theorem hd3_vals : ouOk hd3 = true ∧ ouEr hd3 = 0 ∧ lst hd3 = 1 ∧ setsL hd3 = [[0], [2]] ∧ sureL hd3 = [] := by decide
theorem nil_vals : ouOk [] = false ∧ ouEr [] = 1 := by decide
set_option maxRecDepth 100000 in
set_option maxHeartbeats 2000000 in
theorem head_any (w : World) (hT : TabAt 0 Lib.deBruijn32tab w) : Calls Tryd.prog 9 #[] w fun e w' => e = .returned (.bool true) ∧ Below w.heap.size w w' := by
  obtain ⟨k4, e4, l4, s4, u4⟩ := hd4_vals
  obtain ⟨k3, e3, l3, s3, u3⟩ := hd3_vals
  obtain ⟨k0, e0⟩ := nil_vals
  have hr4 : IvRow (w.alloc (.cells (encL hd4).toArray 42)) (.slice (some ⟨w.heap.size, 0, none⟩) 4 4) hd4 := ivrow_lit w hd4 _ (by decide)
  have hr3 : IvRow (w.alloc (.cells (encL hd4).toArray 42)) (.slice (some ⟨w.heap.size, 0, none⟩) 3 4) hd3 := ivrow_take (m := 3) hr4 (by omega)
  have hw0 : Below w.heap.size w (w.alloc (.cells (encL hd4).toArray 42)) := (by ((repeat' (first | exact Below.refl _ _ | refine Below.alloc ?_ ?_ _ | refine Below.setCell ?_ ?_ _ | refine Below.drew ?_ | refine below_drewN ?_ _)) <;> (first | omega | (simp; done) | (simp; omega))))
  have hT0 := tab_below hT (Nat.le_refl _) hw0
  go_enter Tryd.func9, Tryd.ntmps9
  go_wp2_with fail
  obtain ⟨W, hW⟩ : ∃ W, W = w.alloc (.cells (encL hd4).toArray 42) := ⟨_, rfl⟩
  rw [← hW] at hr4 hr3 hw0 hT0
  have hW' : (w.alloc (.cells #[.int .i64 0, .int .i64 4, .int .i64 3, .int .i64 9, .int .i64 8, .int .i64 12, .int .i64 9, .int .i64 10] 42)) = W := by rw [hW]; rfl
  rw [hW']
  clear hW hW'
  refine (Least_any _ hd4 _ hr4).mono ?_
  rintro e w1 ⟨rfl, b1⟩
  rw [e4, lstV_ok k4, l4]
  go_wp2_with fail
  refine (Sets_any _ hd4 _ (hr4.below (Nat.le_refl _) b1) (tab_below hT0 (Nat.le_refl _) b1)).mono ?_
  rintro e w2 ⟨x, rfl, hx, b2⟩
  rw [e4]
  rw [s4] at hx
  have B2 : Below W.heap.size W w2 := b1.trans (b2.mono b1.size)
  clear b1 b2
  go_wp2_with fail
  refine (Sure_any _ hd4 _ (hr4.below (Nat.le_refl _) B2) (tab_below hT0 (Nat.le_refl _) B2)).mono ?_
  rintro e w3 ⟨s, rfl, hs, b3⟩
  rw [e4]
  rw [u4] at hs
  have B3 : Below W.heap.size W w3 := B2.trans (b3.mono B2.size)
  have hx3 := hx.below (Nat.le_refl _) b3
  clear b3 B2 hx
  go_wp2_with fail
  refine (Least_any _ hd3 _ (hr3.below (Nat.le_refl _) B3)).mono ?_
  rintro e w4 ⟨rfl, b4⟩
  rw [e3, lstV_ok k3, l3]
  have B4 : Below W.heap.size W w4 := B3.trans (b4.mono B3.size)
  have hx4 := hx3.below (Nat.le_refl _) b4
  have hs4 := hs.below (Nat.le_refl _) b4
  clear b4 B3 hx3 hs
  go_wp2_with fail
  refine (Sets_any _ hd3 _ (hr3.below (Nat.le_refl _) B4) (tab_below hT0 (Nat.le_refl _) B4)).mono ?_
  rintro e w5 ⟨y, rfl, hy, b5⟩
  rw [e3]
  rw [s3] at hy
  have B5 : Below W.heap.size W w5 := B4.trans (b5.mono B4.size)
  have hx5 := hx4.below (Nat.le_refl _) b5
  have hs5 := hs4.below (Nat.le_refl _) b5
  clear b5 B4 hx4 hs4
  go_wp2_with fail
  refine (Sure_any _ hd3 _ (hr3.below (Nat.le_refl _) B5) (tab_below hT0 (Nat.le_refl _) B5)).mono ?_
  rintro e w6 ⟨t, rfl, ht, b6⟩
  rw [e3]
  rw [u3] at ht
  have B6 : Below W.heap.size W w6 := B5.trans (b6.mono B5.size)
  have hx6 := hx5.below (Nat.le_refl _) b6
  have hy6 := hy.below (Nat.le_refl _) b6
  have hs6 := hs5.below (Nat.le_refl _) b6
  clear b6 B5 hx5 hs5 hy
  go_wp2_with fail
  have hnil : IvRow w6 (.slice none 0 0) [] := ⟨none, 0, rfl, Nat.le_refl _, by omega, fun i hi => by simp at hi⟩
  refine (Least_any _ [] _ hnil).mono ?_
  rintro e w7 ⟨rfl, b7⟩
  rw [e0, lstV_no k0]
  have B7 : Below W.heap.size W w7 := B6.trans (b7.mono B6.size)
  have hx7 := hx6.below (Nat.le_refl _) b7
  have hy7 := hy6.below (Nat.le_refl _) b7
  have hs7 := hs6.below (Nat.le_refl _) b7
  have Bw : Below w.heap.size w w7 := hw0.trans (B7.mono hw0.size)
  obtain ⟨ta, tcap, rfl, _, _, _⟩ := ht
  clear b7 B6 hx6 hs6 hy6 hnil B7 hr4 hr3 hw0 hT0 hT k4 e4 l4 s4 u4 k3 e3 l3 s3 u3 k0 e0
  go_wp2_with fail
  have q1 := rrow_lit1 w7 [0] 3 31 (by decide)
  refine (RSame16_any _ _ _ [[0]] _ (hx7.below (Nat.le_refl _) (by ((repeat' (first | exact Below.refl _ _ | refine Below.alloc ?_ ?_ _ | refine Below.setCell ?_ ?_ _ | refine Below.drew ?_ | refine below_drewN ?_ _)) <;> (first | omega | (simp; done) | (simp; omega))))) q1).mono ?_
  rintro e w8 ⟨rfl, n8, h8⟩
  rw [show decide (([[0]] : List (List Int)) = [[0]]) = true from by decide]
  have c8 : Below w7.heap.size w7 w8 := by rw [h8]; exact below_drewN (by ((repeat' (first | exact Below.refl _ _ | refine Below.alloc ?_ ?_ _ | refine Below.setCell ?_ ?_ _ | refine Below.drew ?_ | refine below_drewN ?_ _)) <;> (first | omega | (simp; done) | (simp; omega)))) _
  have y8 := hy7.below (Nat.le_refl _) c8
  have s8 := hs7.below (Nat.le_refl _) c8
  clear q1 h8 hx7 hy7 hs7
  go_wp2_with fail
  have q2 := rrow_lit2 w8 [0] [2] 3 31 (by decide) (by decide)
  refine (RSame16_any _ _ _ [[0], [2]] _ (y8.below (Nat.le_refl _) (by ((repeat' (first | exact Below.refl _ _ | refine Below.alloc ?_ ?_ _ | refine Below.setCell ?_ ?_ _ | refine Below.drew ?_ | refine below_drewN ?_ _)) <;> (first | omega | (simp; done) | (simp; omega))))) q2).mono ?_
  rintro e w9 ⟨rfl, n9, h9⟩
  rw [show decide (([[0], [2]] : List (List Int)) = [[0], [2]]) = true from by decide]
  have c9 : Below w8.heap.size w8 w9 := by rw [h9]; exact below_drewN (by ((repeat' (first | exact Below.refl _ _ | refine Below.alloc ?_ ?_ _ | refine Below.setCell ?_ ?_ _ | refine Below.drew ?_ | refine below_drewN ?_ _)) <;> (first | omega | (simp; done) | (simp; omega)))) _
  have s9 := s8.below (Nat.le_refl _) c9
  clear q2 h9 y8 s8
  go_wp2_with fail
  have q3 := isrow_lit w9 [0] 3 (by decide)
  refine (RInts_any _ _ _ [0] _ (s9.below (Nat.le_refl _) (by ((repeat' (first | exact Below.refl _ _ | refine Below.alloc ?_ ?_ _ | refine Below.setCell ?_ ?_ _ | refine Below.drew ?_ | refine below_drewN ?_ _)) <;> (first | omega | (simp; done) | (simp; omega))))) (by simpa [encI] using q3)).mono ?_
  rintro e w10 ⟨rfl, n10, h10⟩
  rw [show cmpI [0] [0] = 0 from by decide]
  have c10 : Below w9.heap.size w9 w10 := by rw [h10]; exact below_drewN (by ((repeat' (first | exact Below.refl _ _ | refine Below.alloc ?_ ?_ _ | refine Below.setCell ?_ ?_ _ | refine Below.drew ?_ | refine below_drewN ?_ _)) <;> (first | omega | (simp; done) | (simp; omega)))) _
  clear q3 h10
  have z8 := c8.size
  have z9 := c9.size
  have zb := Bw.size
  go_wp2_with fail
  go_ret
  exact ⟨rfl, (by ((repeat' (first | exact Below.refl _ _ | exact Bw | exact c8 | exact c9 | exact c10 | refine Below.alloc ?_ ?_ _ | refine Below.setCell ?_ ?_ _ | refine Below.drew ?_ | refine below_drewN ?_ _ | refine Below.trans ?_ (Bw.mono ?_) | refine Below.trans ?_ (c8.mono ?_) | refine Below.trans ?_ (c9.mono ?_) | refine Below.trans ?_ (c10.mono ?_))) <;> (first | omega | (simp; done) | (simp; omega))))⟩
end Go.Proofs.YtodkmbjhdckjiaaDoor
