/- Lists of lists of integers in memory; the comparison of two lists; the sort. -/
import Derived.Test.YtodkmbjhdckjiaaDoorOuF
import Derived.Shelf.SlSortCmp.Whole1
import Derived.Shelf.SlSortCmp.NoneTotal
import Derived.Lib.Small
namespace Go.Proofs.YtodkmbjhdckjiaaDoor
open Go.RowKit Go.Shelf
def rAt (ll : List (List Int)) (i : Nat) : List Int := ll.getD i []
theorem rAt_lt (ll : List (List Int)) (i : Nat) (h : i < ll.length) : rAt ll i = ll[i] := by simp [rAt, List.getD_eq_getElem?_getD, List.getElem?_eq_getElem h]
theorem rAt_mem {ll : List (List Int)} {k : Nat} (hk : k < ll.length) : rAt ll k ∈ ll := by rw [rAt_lt ll k hk]; exact List.getElem_mem hk
theorem rAt_left (l d : List (List Int)) (k : Nat) (hk : k < l.length) : rAt (l ++ d) k = rAt l k := by simp [rAt, List.getD_eq_getElem?_getD, List.getElem?_append_left hk]
theorem rAt_len (l : List (List Int)) (p : List Int) : rAt (l ++ [p]) l.length = p := by simp [rAt, List.getD_eq_getElem?_getD]
theorem take_snoc_rs (l : List (List Int)) (k : Nat) (h : k < l.length) : l.take (k + 1) = l.take k ++ [rAt l k] := by
  rw [List.take_succ_eq_append_getElem h, rAt_lt l k h]
/-- The slice value v reads as the list ll of lists of integers. -/
def RrRow (w : World) (v : Value) (ll : List (List Int)) : Prop :=
  ∃ a cap, v = .slice a ll.length cap ∧ ll.length ≤ cap ∧ cap ≤ 9223372036854775807 ∧ ∀ i, i < ll.length → ∃ b off u, a = some ⟨b, off, none⟩ ∧ b < w.heap.size ∧ w.cell? ⟨b, off + i, none⟩ = some u ∧ IsRow w u (rAt ll i)
theorem RrRow.below {w w' : World} {v : Value} {ll : List (List Int)} (h : RrRow w v ll) {B : Nat} (hB : w.heap.size ≤ B) (hb : Below B w w') : RrRow w' v ll := by
  obtain ⟨a, cap, rfl, h1, h2, h3⟩ := h
  refine ⟨a, cap, rfl, h1, h2, fun i hi => ?_⟩
  obtain ⟨b, off, u, rfl, h4, h5, h6⟩ := h3 i hi
  exact ⟨b, off, u, rfl, Nat.lt_of_lt_of_le h4 hb.size, (hb.cell (p := ⟨b, off + i, none⟩) (Nat.lt_of_lt_of_le h4 hB)).trans h5, h6.below hB hb⟩
theorem RrRow.nil (w : World) : RrRow w (.slice none 0 0) [] := ⟨none, 0, rfl, Nat.le_refl _, by omega, fun i hi => by simp at hi⟩
/-- v owns a row of values, each of which reads as a list of integers outside the row. -/
def OwnRr (w : World) (base : Nat) (v : Value) (ll : List (List Int)) : Prop :=
  ∃ us : List Value, us.length = ll.length ∧ w.ownsRow base 31 1 v ll.length us ∧ ∀ i, i < ll.length → IsRow w (us.getD i undef) (rAt ll i) ∧ (0 < (rAt ll i).length → ∀ r, (us.getD i undef).ownBlock = some r → v.ownBlock ≠ some r)
theorem OwnRr.nil (w : World) (base : Nat) : OwnRr w base (.slice none 0 0) [] := ⟨[], rfl, World.ownsRow_nil _ _ _ _, fun i hi => by simp at hi⟩
theorem OwnRr.below {w w' : World} {base : Nat} {v : Value} {c : List (List Int)} (h : OwnRr w base v c) {B : Nat} (hB : w.heap.size ≤ B) (hb : Below B w w') : OwnRr w' base v c := by
  obtain ⟨us, h1, h2, h3⟩ := h
  exact ⟨us, h1, ownsRow_below h2 (hb.mono hB), fun i hi => ⟨(h3 i hi).1.below hB hb, (h3 i hi).2⟩⟩
theorem OwnRr.val {w : World} {base : Nat} {v : Value} {c : List (List Int)} (h : OwnRr w base v c) : ∃ a cap, v = .slice a c.length cap ∧ c.length ≤ cap ∧ cap ≤ 9223372036854775807 := by
  obtain ⟨us, _, h, _⟩ := h
  rcases h.2 with ⟨hv, h0⟩ | ⟨g, cap, cur, hv, hg, hc, hn, hm, _⟩
  · exact ⟨none, 0, by rw [hv, h0], by omega, by omega⟩
  · exact ⟨_, cap, hv, hn, hm⟩
theorem OwnRr.row {w : World} {base : Nat} {v : Value} {c : List (List Int)} (h : OwnRr w base v c) : RrRow w v c := by
  obtain ⟨a, cap, hv, h1, h2⟩ := h.val
  subst hv
  refine ⟨a, cap, rfl, h1, h2, fun i hi => ?_⟩
  obtain ⟨us, hl, hown, hr⟩ := h
  obtain ⟨g, cap', hv', hb, hlt⟩ := World.ownsRow.form hown (by omega)
  cases hv'
  refine ⟨g, 0, us.getD i undef, rfl, hlt, ?_, (hr i hi).1⟩
  rw [Nat.zero_add]
  refine (World.ownsRow.cellAt hown i (by omega)).trans ?_
  rw [List.getD_eq_getElem?_getD, List.getElem?_eq_getElem (by omega)]; rfl
theorem isrow_one {w : World} {v : Value} {l : List Int} (h : IsRow w v l) : v.oneCell' = true := by
  obtain ⟨a, cap, rfl, _⟩ := h; rfl
theorem isrow_kept {w w' : World} {row : Option Nat} {u : Value} {c : List Int} (h : IsRow w u c) (hg : w.grownBy w' row) (hr : 0 < c.length → ∀ r, u.ownBlock = some r → row ≠ some r) : IsRow w' u c := by
  obtain ⟨a, cap, rfl, h1, h2, h3⟩ := h
  refine ⟨a, cap, rfl, h1, h2, fun i hi => ?_⟩
  obtain ⟨b, off, rfl, h4, h5⟩ := h3 i hi
  exact ⟨b, off, rfl, Nat.lt_of_lt_of_le h4 hg.size, (World.cell?_of_block (a := ⟨b, off + i, none⟩) (hg.block b h4 (fun e => hr (by omega) b rfl e.symm))).trans h5⟩
theorem isrow_blk {w : World} {u : Value} {c : List Int} (h : IsRow w u c) (h0 : 0 < c.length) : ∀ r, u.ownBlock = some r → r < w.heap.size := by
  obtain ⟨a, cap, rfl, h1, h2, h3⟩ := h
  obtain ⟨b, off, rfl, h4, _⟩ := h3 0 h0
  intro r hr; cases hr; exact h4
/-- One list more behind an append. -/
theorem OwnRr.app {W w3 : World} {base : Nat} {v v3 u : Value} {c : List (List Int)} {x : List Int} {us : List Value} (hl : us.length = c.length) (h3 : w3.ownsRow base 31 1 v3 (c.length + 1) (us ++ [u])) (hg : W.grownBy w3 v.ownBlock) (hn : ∀ r, v3.ownBlock = some r → v.ownBlock = some r ∨ W.heap.size ≤ r)
    (hus : ∀ i, i < c.length → IsRow W (us.getD i undef) (rAt c i) ∧ (0 < (rAt c i).length → ∀ r, (us.getD i undef).ownBlock = some r → v.ownBlock ≠ some r)) (hu : IsRow W u x) (hur : 0 < x.length → ∀ r, u.ownBlock = some r → v.ownBlock ≠ some r) : OwnRr w3 base v3 (c ++ [x]) := by
  have key : ∀ (q : Value) (y : List Int), IsRow W q y → (0 < y.length → ∀ r, q.ownBlock = some r → v.ownBlock ≠ some r) → IsRow w3 q y ∧ (0 < y.length → ∀ r, q.ownBlock = some r → v3.ownBlock ≠ some r) := fun q y h1 h2 => by
    refine ⟨isrow_kept h1 hg h2, fun h0 r hr e => ?_⟩
    rcases hn r e with h4 | h4
    · exact h2 h0 r hr h4
    · have := isrow_blk h1 h0 r hr; omega
  refine ⟨us ++ [u], by simp [hl], by simpa using h3, fun i hi => ?_⟩
  simp only [List.length_append, List.length_cons, List.length_nil] at hi
  rcases Nat.lt_or_ge i c.length with h4 | h4
  · rw [rAt_left _ _ _ h4, show (us ++ [u]).getD i undef = us.getD i undef by simp [List.getD_eq_getElem?_getD, List.getElem?_append_left (show i < us.length by omega)]]
    exact key _ _ (hus i h4).1 (hus i h4).2
  · obtain rfl : i = c.length := by omega
    rw [rAt_len, show (us ++ [u]).getD c.length undef = u by rw [← hl]; simp [List.getD_eq_getElem?_getD]]
    exact key _ _ hu hur
theorem infoRr : (Tryd.prog.info? 31).map (fun i => (i.zero, i.size, i.bytes)) = some (some (.slice none 0 0), 1, 24) := by kernel_rfl
set_option maxRecDepth 100000 in
set_option maxHeartbeats 400000 in
theorem isNaNI_any (x : Int) (w : World) : Calls Tryd.prog 57 #[.int .i64 x] w fun e w' => e = .returned (.bool false) ∧ w' = w := by
  go_enter Tryd.func57, Tryd.ntmps57
  go_wp2
  all_goals go_ret
  all_goals exact ⟨ret_bool (by simp), rfl⟩
set_option maxRecDepth 100000 in
set_option maxHeartbeats 400000 in
theorem CompareI_any (x y : Int) (w : World) : Calls Tryd.prog 42 #[.int .i64 x, .int .i64 y] w fun e w' => e = .returned (.int .i64 (Lib.compareInt x y)) ∧ w' = w := by
  go_enter Tryd.func42, Tryd.ntmps42
  go_wp2_with (go_at_call 57; refine (isNaNI_any _ _).mono ?_; rintro e w' ⟨rfl, rfl⟩)
  all_goals go_ret
  all_goals exact ⟨ret_int (by unfold Lib.compareInt; split <;> first | rfl | omega | (split <;> first | rfl | omega)), rfl⟩
set_option maxRecDepth 100000 in
set_option maxHeartbeats 1000000 in
theorem CompareL_any (v1 v2 : Value) (l1 l2 : List Int) (w : World) (h1 : IsRow w v1 l1) (h2 : IsRow w v2 l2) :
    Calls Tryd.prog 32 #[v1, v2] w fun e w' => e = .returned (.int .i64 (cmpI l1 l2)) ∧ w' = w := by
  obtain ⟨a, cap, rfl, q1, q2, q3⟩ := h1
  obtain ⟨a', cap', rfl, q1', q2', q3'⟩ := h2
  go_enter Tryd.func32, Tryd.ntmps32
  go_wp2
  go_loop [11] (fun i => ∃ k : Nat, k ≤ l1.length ∧ k ≤ l2.length ∧ i = .int .i64 k ∧ Hid (∀ j, j < k → iAt l1 j = iAt l2 j)) (fun i => l1.length - (intOf i).toNat)
  case atStart => exact ⟨0, Nat.zero_le _, Nat.zero_le _, rfl, hide (fun j hj => by omega)⟩
  case round =>
    obtain ⟨k, hk, hk2, rfl, Hall⟩ := hrel
    by_cases hlt : k < l1.length
    · obtain ⟨b, off, rfl, h4, h5⟩ := q3 k hlt
      clear q3
      by_cases hlt2 : k < l2.length
      · obtain ⟨b', off', rfl, h4', h5'⟩ := q3' k hlt2
        clear q3'
        have Hat := hide (cmpI_at hlt hlt2 Hall.out)
        have Hk := hide (fun e : iAt l1 k = iAt l2 k => (fun j (hj : j < k + 1) => by
          rcases Nat.lt_or_ge j k with h | h
          · exact Hall.out j h
          · obtain rfl : j = k := by omega
            exact e : ∀ j, j < k + 1 → iAt l1 j = iAt l2 j))
        by_cases hc : iAt l1 k = iAt l2 k
        · have hz : Lib.compareInt (iAt l1 k) (iAt l2 k) = 0 := by unfold Lib.compareInt; rw [if_neg (by omega), if_neg (by omega)]
          have hz' : (Lib.compareInt (iAt l1 k) (iAt l2 k) != 0) = false := by rw [hz]; rfl
          have Hc := hide hc
          clear hc hz
          go_wp2_with (go_at_call 42; refine (CompareI_any _ _ _).mono ?_; rintro e w' ⟨rfl, rfl⟩)
          go_round
          case rel => exact ⟨k + 1, by omega, by omega, by go_num, hide (Hk.out Hc.out)⟩
          case measure => simp [intOf]; omega
        · have hcm : cmpI l1 l2 = Lib.compareInt (iAt l1 k) (iAt l2 k) := by
            rw [Hat.out]; unfold Lib.compareInt
            by_cases e1 : iAt l1 k < iAt l2 k
            · rw [if_pos e1, if_pos e1]
            · rw [if_neg e1, if_pos (by omega), if_neg e1, if_pos (by omega)]
          have hz : Lib.compareInt (iAt l1 k) (iAt l2 k) ≠ 0 := by
            unfold Lib.compareInt
            split
            · omega
            · split <;> omega
          have hz' : (Lib.compareInt (iAt l1 k) (iAt l2 k) != 0) = true := by rw [bne_iff_ne]; exact hz
          have Hcm := hide hcm
          clear hc hz hcm
          go_wp2_with (go_at_call 42; refine (CompareI_any _ _ _).mono ?_; rintro e w' ⟨rfl, rfl⟩)
          go_ret
          exact ⟨ret_int Hcm.out.symm, rfl⟩
      · have He := hide (cmpI_end hk hk2 (.inr (by omega)) Hall.out)
        clear q3'
        go_wp2_with fail
        go_ret
        exact ⟨ret_int (by rw [He.out, if_neg (by omega), if_pos (by omega)]), rfl⟩
    · have He := hide (cmpI_end hk hk2 (.inl (by omega)) Hall.out)
      clear q3 q3'
      by_cases hl : l1.length < l2.length
      · go_wp2_with fail
        go_ret
        exact ⟨ret_int (by rw [He.out, if_pos hl]), rfl⟩
      · go_wp2_with fail
        go_ret
        exact ⟨ret_int (by rw [He.out, if_neg hl, if_neg (by omega)]), rfl⟩
end Go.Proofs.YtodkmbjhdckjiaaDoor
