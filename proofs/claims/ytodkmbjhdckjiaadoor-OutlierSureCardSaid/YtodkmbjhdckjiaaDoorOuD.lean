/- Package outlier: the smallest sets, as numbers, each once; how many are left out at least. -/
import Derived.Test.YtodkmbjhdckjiaaDoorOuC
namespace Go.Proofs.YtodkmbjhdckjiaaDoor
open Go.RowKit
attribute [local go_sem ↓] run_max_mx run_min_mn
theorem ownsRow_setCells {base e size n g cap : Nat} : ∀ (vs : List Value) (o : Nat) (w : World) (xs : List Value), w.ownsRow base e size (.slice (some ⟨g, 0, none⟩) n cap) n xs →
    ∃ ys, (w.setCells g o vs).ownsRow base e size (.slice (some ⟨g, 0, none⟩) n cap) n ys ∧ ys.take o = xs.take o
  | [], o, w, xs, h => ⟨xs, h, rfl⟩
  | v :: r, o, w, xs, h => by
    obtain ⟨ys, h1, h2⟩ := ownsRow_setCells r (o + 1) (w.setCell ⟨g, o, none⟩ v) (xs.set o v) (World.ownsRow.stored h o v).1
    refine ⟨ys, h1, ?_⟩
    have h3 := congrArg (List.take o) h2
    rw [List.take_take, List.take_take, Nat.min_eq_left (Nat.le_succ o)] at h3
    rw [h3, List.take_set_of_le (Nat.le_refl o)]
theorem ownsRow_cut {w : World} {base e size n g cap i : Nat} {xs : List Value} (h : w.ownsRow base e size (.slice (some ⟨g, 0, none⟩) n cap) n xs) (hi : i ≤ n) : w.ownsRow base e size (.slice (some ⟨g, 0, none⟩) i cap) i (xs.take (i * size)) := by
  refine ⟨?_, ?_⟩
  · have := h.1
    rw [List.length_take, this]
    exact Nat.min_eq_left (Nat.mul_le_mul_right size hi)
  · rcases h.2 with ⟨hv, h0⟩ | ⟨g', cap', cur, hv, hg, hc, hn, hm, hs, ht⟩
    · simp at hv
    · simp only [Value.slice.injEq, Option.some.injEq, Addr.mk.injEq, and_true] at hv
      obtain ⟨rfl, -, rfl⟩ := hv
      refine .inr ⟨g, cap, cur, rfl, hg, hc, Nat.le_trans hi hn, hm, hs, ?_⟩
      rw [← ht, List.take_take, Nat.min_eq_left (Nat.mul_le_mul_right size hi)]
theorem below_setCells {B g : Nat} (hg : B ≤ g) : ∀ (vs : List Value) (o : Nat) (a w : World), Below B a w → Below B a (w.setCells g o vs)
  | [], _, _, _, h => h
  | v :: r, o, a, _w, h => below_setCells hg r (o + 1) a _ (h.setCell (p := ⟨g, o, none⟩) hg v)

/-- How many bits of a number are set. -/
def pc (s : Nat) : Nat := (bitsL s).length
theorem pc_msk {l : List Iv} (x : Int) (h : l.length ≤ 16) : pc (msk l x) = (woL l x).length := by unfold pc; rw [bits_msk x h]
/-- What smallest has behind the first k beginnings. -/
def SmSpec (l : List Iv) (k : Nat) (S : List Nat) : Prop :=
  (k = 0 → S = []) ∧ (0 < k → S ≠ []) ∧ S.Nodup ∧ (∀ s, s ∈ S → s < 65536) ∧ ∃ d : Nat, (∀ i, i < k → d ≤ pc (msk l (iLo l i))) ∧ ∀ s, s ∈ S ↔ ∃ i, i < k ∧ s = msk l (iLo l i) ∧ pc s = d
theorem SmSpec.start (l : List Iv) : SmSpec l 0 [] := ⟨fun _ => rfl, fun h => by omega, List.nodup_nil, fun s h => by simp at h, 0, fun i h => by omega, fun s => by simp⟩
theorem SmSpec.one {l : List Iv} {k : Nat} (hl : l.length ≤ 16) (h : ∀ i, i < k → pc (msk l (iLo l k)) < pc (msk l (iLo l i))) : SmSpec l (k + 1) [msk l (iLo l k)] := by
  refine ⟨fun h => by omega, fun _ => by simp, (by simp), fun s hs => ?_, pc (msk l (iLo l k)), fun i hi => ?_, fun s => ?_⟩
  · rw [List.mem_singleton] at hs; subst hs; exact msk_lt32 _ hl
  · rcases Nat.lt_or_ge i k with h1 | h1
    · have := h i h1; omega
    · obtain rfl : i = k := by omega
      exact Nat.le_refl _
  · rw [List.mem_singleton]
    constructor
    · rintro rfl; exact ⟨k, by omega, rfl, rfl⟩
    · rintro ⟨i, h1, h2, h3⟩
      rcases Nat.lt_or_ge i k with h4 | h4
      · have := h i h4; rw [h2] at h3; omega
      · obtain rfl : i = k := by omega
        exact h2
theorem SmSpec.head {l : List Iv} {k : Nat} {S : List Nat} (h : SmSpec l k S) (hS : 0 < S.length) : (∀ i, i < k → pc (S.getD 0 0) ≤ pc (msk l (iLo l i))) ∧ ∀ s, s ∈ S ↔ ∃ i, i < k ∧ s = msk l (iLo l i) ∧ pc s = pc (S.getD 0 0) := by
  obtain ⟨_, _, _, _, d, h1, h2⟩ := h
  have hm : S.getD 0 0 ∈ S := by
    rw [List.getD_eq_getElem?_getD, List.getElem?_eq_getElem hS]; exact List.getElem_mem hS
  obtain ⟨i, _, _, h3⟩ := (h2 _).1 hm
  rw [h3]
  exact ⟨h1, h2⟩
theorem SmSpec.skip {l : List Iv} {k : Nat} {S : List Nat} (h : SmSpec l k S) (hS : 0 < S.length) (hd : pc (S.getD 0 0) < pc (msk l (iLo l k))) : SmSpec l (k + 1) S := by
  obtain ⟨a1, a2⟩ := h.head hS
  refine ⟨fun h => by omega, fun _ => List.ne_nil_of_length_pos hS, h.2.2.1, h.2.2.2.1, pc (S.getD 0 0), fun i hi => ?_, fun s => ?_⟩
  · rcases Nat.lt_or_ge i k with h4 | h4
    · exact a1 i h4
    · obtain rfl : i = k := by omega
      omega
  · rw [a2]
    constructor
    · rintro ⟨i, h1, h2⟩; exact ⟨i, by omega, h2⟩
    · rintro ⟨i, h1, h2, h3⟩
      rcases Nat.lt_or_ge i k with h4 | h4
      · exact ⟨i, h4, h2, h3⟩
      · obtain rfl : i = k := by omega
        rw [h2] at h3; omega
theorem SmSpec.same {l : List Iv} {k : Nat} {S : List Nat} (h : SmSpec l k S) (hS : 0 < S.length) (hd : msk l (iLo l k) ∈ S) : SmSpec l (k + 1) S := by
  obtain ⟨a1, a2⟩ := h.head hS
  have hp := ((a2 _).1 hd).elim fun i hi => hi.2.2
  refine ⟨fun h => by omega, fun _ => List.ne_nil_of_length_pos hS, h.2.2.1, h.2.2.2.1, pc (S.getD 0 0), fun i hi => ?_, fun s => ?_⟩
  · rcases Nat.lt_or_ge i k with h4 | h4
    · exact a1 i h4
    · obtain rfl : i = k := by omega
      omega
  · constructor
    · intro hs
      obtain ⟨i, h1, h2⟩ := (a2 s).1 hs
      exact ⟨i, by omega, h2⟩
    · rintro ⟨i, h1, h2, h3⟩
      rcases Nat.lt_or_ge i k with h4 | h4
      · exact (a2 s).2 ⟨i, h4, h2, h3⟩
      · obtain rfl : i = k := by omega
        rw [h2]; exact hd
theorem SmSpec.more {l : List Iv} {k : Nat} {S : List Nat} (h : SmSpec l k S) (hl : l.length ≤ 16) (hS : 0 < S.length) (hp : pc (msk l (iLo l k)) = pc (S.getD 0 0)) (hd : msk l (iLo l k) ∉ S) : SmSpec l (k + 1) (S ++ [msk l (iLo l k)]) := by
  obtain ⟨a1, a2⟩ := h.head hS
  refine ⟨fun h => by omega, fun _ => by simp, ?_, fun s hs => ?_, pc (S.getD 0 0), fun i hi => ?_, fun s => ?_⟩
  · refine List.nodup_append.2 ⟨h.2.2.1, (by simp), fun x hx y hy => ?_⟩
    rw [List.mem_singleton] at hy
    subst hy
    intro e; subst e; exact hd hx
  · rcases List.mem_append.1 hs with h1 | h1
    · exact h.2.2.2.1 s h1
    · rw [List.mem_singleton] at h1; subst h1; exact msk_lt32 _ hl
  · rcases Nat.lt_or_ge i k with h4 | h4
    · exact a1 i h4
    · obtain rfl : i = k := by omega
      omega
  · rw [List.mem_append, List.mem_singleton]
    constructor
    · rintro (hs | hs)
      · obtain ⟨i, h1, h2⟩ := (a2 s).1 hs
        exact ⟨i, by omega, h2⟩
      · exact ⟨k, by omega, hs, by rw [hs]; exact hp⟩
    · rintro ⟨i, h1, h2, h3⟩
      rcases Nat.lt_or_ge i k with h4 | h4
      · exact .inl ((a2 s).2 ⟨i, h4, h2, h3⟩)
      · obtain rfl : i = k := by omega
        exact .inr h2
theorem SmSpec.pos {l : List Iv} {k : Nat} {S : List Nat} (h : SmSpec l k S) : S.length ≤ 65536 ∧ (0 < k → 0 < S.length) := by
  refine ⟨?_, fun hk => List.length_pos_iff.2 (h.2.1 hk)⟩
  have hs : S.Nodup := h.2.2.1
  have := hs.length_le_of_subset (l₂ := List.range 65536) (fun s hs => List.mem_range.2 (h.2.2.2.1 s hs))
  simpa using this
/-- Among all: just the sets with the least number of indexes. -/
theorem SmSpec.done {l : List Iv} {S : List Nat} (hl : ouOk l = true) (h : SmSpec l l.length S) : ∀ s, s ∈ S ↔ ∃ i, i < l.length ∧ s = msk l (iLo l i) ∧ ((woL l (iLo l i)).length : Int) = lst l := by
  have hn := ((ouOk_iff l).1 hl).1
  have hp := (h.pos).2 (by omega)
  obtain ⟨a1, a2⟩ := h.head hp
  obtain ⟨h1, h2, h3, i0, h4, h5⟩ := lst_spec hl
  have hm : S.getD 0 0 ∈ S := by
    rw [List.getD_eq_getElem?_getD, List.getElem?_eq_getElem hp]; exact List.getElem_mem hp
  obtain ⟨j, q1, q2, _⟩ := (a2 _).1 hm
  have e1 := a1 i0 h4
  rw [pc_msk _ hn.2] at e1
  have e2 := h3 (iLo l j)
  have e3 : pc (S.getD 0 0) = (woL l (iLo l j)).length := by rw [q2, pc_msk _ hn.2]
  intro s
  rw [a2]
  constructor
  · rintro ⟨i, r1, r2, r3⟩
    refine ⟨i, r1, r2, ?_⟩
    rw [r2, pc_msk _ hn.2] at r3; omega
  · rintro ⟨i, r1, r2, r3⟩
    refine ⟨i, r1, r2, ?_⟩
    rw [r2, pc_msk _ hn.2]; omega
def encU (S : List Nat) : List Value := S.map fun s : Nat => .int .u32 (s : Int)
theorem encU_length (S : List Nat) : (encU S).length = S.length := by simp [encU]
theorem encU_append (c d : List Nat) : encU (c ++ d) = encU c ++ encU d := by simp [encU]
theorem encU_at (S : List Nat) (i : Nat) (h : i < S.length) : (encU S)[i]? = some (.int .u32 (S.getD i 0 : Nat)) := by
  simp [encU, List.getD_eq_getElem?_getD, List.getElem?_eq_getElem h]
def OwnUs (w : World) (base : Nat) (v : Value) (S : List Nat) : Prop := w.ownsRow base 51 1 v S.length (encU S)
theorem OwnUs.nil (w : World) (base : Nat) : OwnUs w base (.slice none 0 0) [] := World.ownsRow_nil _ _ _ _
theorem OwnUs.below {w w' : World} {base : Nat} {v : Value} {c : List Nat} (h : OwnUs w base v c) {B : Nat} (hB : w.heap.size ≤ B) (hb : Below B w w') : OwnUs w' base v c := ownsRow_below h (hb.mono hB)
theorem OwnUs.val {w : World} {base : Nat} {v : Value} {c : List Nat} (h : OwnUs w base v c) : ∃ a cap, v = .slice a c.length cap ∧ c.length ≤ cap ∧ cap ≤ 9223372036854775807 := by
  rcases h.2 with ⟨hv, h0⟩ | ⟨g, cap, cur, hv, hg, hc, hn, hm, _⟩
  · exact ⟨none, 0, by rw [hv, h0], by omega, by omega⟩
  · exact ⟨_, cap, hv, hn, hm⟩
theorem OwnUs.app {w : World} {base : Nat} {v : Value} {c : List Nat} {a : Nat} (h : w.ownsRow base 51 1 v (c.length + 1) (encU c ++ [.int .u32 (a : Int)])) : OwnUs w base v (c ++ [a]) := by
  unfold OwnUs
  rw [encU_append, show (c ++ [a]).length = c.length + 1 by simp]
  exact h
theorem OwnUs.form {w : World} {base : Nat} {v : Value} {c : List Nat} (h : OwnUs w base v c) (h0 : 0 < c.length) : ∃ g cap, v = .slice (some ⟨g, 0, none⟩) c.length cap ∧ base ≤ g ∧ g < w.heap.size ∧ c.length ≤ cap ∧ cap ≤ 9223372036854775807 ∧
    ∀ i, i < c.length → w.cell? ⟨g, i, none⟩ = some (.int .u32 (c.getD i 0 : Nat)) := by
  obtain ⟨g, cap, rfl, hb, hlt⟩ := World.ownsRow.form h h0
  have hcap : c.length ≤ cap ∧ cap ≤ maxLen := by
    rcases h.2 with ⟨hv, _⟩ | ⟨g', cap', cur, hv, hg, hc, hn, hm, _⟩
    · simp at hv
    · simp only [Value.slice.injEq] at hv; obtain ⟨-, -, rfl⟩ := hv; exact ⟨hn, hm⟩
  exact ⟨g, cap, rfl, hb, hlt, hcap.1, hcap.2, fun i hi => (World.ownsRow.cellAt h i (by omega)).trans (encU_at c i hi)⟩
theorem infoSet : (Tryd.prog.info? 51).map (fun i => (i.zero, i.size, i.bytes)) = some (some (.int .u32 0), 1, 4) := by kernel_rfl
theorem getD_mem {c : List Nat} {k : Nat} (h : k < c.length) : c.getD k 0 ∈ c := by rw [List.getD_eq_getElem?_getD, List.getElem?_eq_getElem h]; exact List.getElem_mem h
set_option maxRecDepth 100000 in
set_option maxHeartbeats 400000 in
theorem IndexU_any (v : Value) (base : Nat) (c : List Nat) (s : Nat) (w : World) (hv : OwnUs w base v c) :
    Calls Tryd.prog 44 #[v, .int .u32 (s : Int)] w fun e w' => (∃ r : Int, e = .returned (.int .i64 r) ∧ (r < 0 ∧ s ∉ c ∨ 0 ≤ r ∧ s ∈ c)) ∧ w = w' := by
  rcases Nat.eq_zero_or_pos c.length with h0 | h0
  · obtain ⟨a, cap, rfl, h1, h2⟩ := hv.val
    have hc : c = [] := List.eq_nil_of_length_eq_zero h0
    subst hc
    go_enter Tryd.func44, Tryd.ntmps44
    go_wp2
    go_loop [5, 8] (fun _ i => i = .int .i64 0) (fun _ i => 0)
    case atStart => rfl
    case round =>
      subst hrel
      go_wp2
      go_ret
      exact ⟨⟨_, rfl, by first | omega | simp⟩, rfl⟩
  · obtain ⟨g, cap, rfl, h1, h2, h3, h4, h5⟩ := hv.form h0
    go_enter Tryd.func44, Tryd.ntmps44
    go_wp2
    go_loop [5, 8] (fun _ i => ∃ k : Nat, k ≤ c.length ∧ i = .int .i64 k ∧ Hid (∀ j, j < k → c.getD j 0 ≠ s)) (fun _ i => c.length - (intOf i).toNat)
    case atStart => exact ⟨0, Nat.zero_le _, rfl, hide (fun j hj => by omega)⟩
    case round =>
      obtain ⟨k, hk, rfl, Hall⟩ := hrel
      by_cases hlt : k < c.length
      · have h6 := h5 k hlt
        clear h5
        have Hm := hide (getD_mem hlt)
        obtain ⟨z, hz⟩ : ∃ z, z = c.getD k 0 := ⟨_, rfl⟩
        rw [← hz] at h6
        have Hz := hide hz
        clear hz
        by_cases hb : s = z
        · have hb' : ((s : Int) == z) = true := by rw [beq_iff_eq]; omega
          have Hb := hide hb
          clear hb
          go_wp2
          go_ret
          exact ⟨⟨_, rfl, .inr ⟨by omega, by rw [Hb.out, Hz.out]; exact Hm.out⟩⟩, rfl⟩
        · have hb' : ((s : Int) == z) = false := by rw [beq_eq_false_iff_ne]; omega
          have Hb := hide hb
          clear hb
          go_wp2
          go_round
          case rel => exact ⟨k + 1, by omega, by go_num, hide (fun j hj => by
            rcases Nat.lt_or_ge j k with h | h
            · exact Hall.out j h
            · obtain rfl : j = k := by omega
              rw [← Hz.out]; exact fun e => Hb.out e.symm)⟩
          case measure => simp [intOf]; omega
      · clear h5
        go_wp2
        go_ret
        refine ⟨⟨_, rfl, .inl ⟨by omega, fun hs => ?_⟩⟩, rfl⟩
        obtain ⟨j, hj, he⟩ := List.getElem_of_mem hs
        exact Hall.out j (by omega) (by rw [List.getD_eq_getElem?_getD, List.getElem?_eq_getElem hj]; exact he)
set_option maxRecDepth 100000 in
set_option maxHeartbeats 400000 in
theorem ContainsU_any (v : Value) (base : Nat) (c : List Nat) (s : Nat) (w : World) (hv : OwnUs w base v c) :
    Calls Tryd.prog 38 #[v, .int .u32 (s : Int)] w fun e w' => e = .returned (.bool (decide (s ∈ c))) ∧ w = w' := by
  go_enter Tryd.func38, Tryd.ntmps38
  go_wp2_with fail
  refine (IndexU_any v base c s _ hv).mono ?_
  rintro e w' ⟨⟨r, rfl, hr⟩, rfl⟩
  rcases hr with ⟨h0, h1⟩ | ⟨h0, h1⟩
  · have hd := hide (decide_eq_false h1)
    clear h1
    have h0' : decide (r ≥ 0) = false := by rw [decide_eq_false_iff_not]; omega
    go_wp2_with fail
    go_ret
    exact ⟨by first | (rw [hd.out]; done) | (rw [hd.out]; simp; done) | (rw [hd.out]; simp; omega), rfl⟩
  · have hd := hide (decide_eq_true h1)
    clear h1
    have h0' : decide (r ≥ 0) = true := by simpa using h0
    go_wp2_with fail
    go_ret
    exact ⟨by first | (rw [hd.out]; done) | (rw [hd.out]; simp), rfl⟩
end Go.Proofs.YtodkmbjhdckjiaaDoor
