/- Peers in memory: a row of peers that came in, a row of truth values that a call makes; opening a site and a schedule. -/
import Derived.Test.YtiaahfccebmkdaaSpA
import Derived.Test.YtiaahfccebmkdaaWdP
namespace Go.Proofs.Ytiaahfccebmkdaa
open Go.RowKit

/-- The cells of a peer from the cell o of the block b on. -/
def PrAt (w : World) (b o : Nat) (p : Pr) : Prop :=
  w.cell? ⟨b, o, none⟩ = some (.int .i64 p.au) ∧ w.cell? ⟨b, o + 1, none⟩ = some (.int .i64 p.er) ∧ w.cell? ⟨b, o + 2, none⟩ = some (.int .i64 p.co) ∧ w.cell? ⟨b, o + 3, none⟩ = some (.int .i64 p.at_) ∧
  w.cell? ⟨b, o + 4, none⟩ = some (.int .i64 p.ol) ∧ w.cell? ⟨b, o + 5, none⟩ = some (.int .i64 p.oh) ∧ w.cell? ⟨b, o + 6, none⟩ = some (.int .i64 p.bl) ∧ w.cell? ⟨b, o + 7, none⟩ = some (.int .i64 p.bh)
theorem PrAt.of {w w' : World} {b o : Nat} {p : Pr} (h : PrAt w b o p) (hc : ∀ i, w'.cell? ⟨b, i, none⟩ = w.cell? ⟨b, i, none⟩) : PrAt w' b o p := by
  obtain ⟨h0, h1, h2, h3, h4, h5, h6, h7⟩ := h
  exact ⟨(hc _).trans h0, (hc _).trans h1, (hc _).trans h2, (hc _).trans h3, (hc _).trans h4, (hc _).trans h5, (hc _).trans h6, (hc _).trans h7⟩
theorem PrAt.below {w w' : World} {b o : Nat} {p : Pr} (h : PrAt w b o p) {B : Nat} (hb : Below B w w') (hlt : b < B) : PrAt w' b o p := h.of (bk hb b hlt).1
/-- The slice value v reads as the list l of peers. -/
def PrRow (w : World) (v : Value) (l : List Pr) : Prop :=
  ∃ a cap, v = .slice a l.length cap ∧ l.length ≤ cap ∧ cap ≤ 9223372036854775807 ∧ ∀ i, i < l.length → ∃ b off, a = some ⟨b, off, none⟩ ∧ b < w.heap.size ∧ PrAt w b (off + i * 8) (pAt l i)
theorem PrRow.below {w w' : World} {v : Value} {l : List Pr} (h : PrRow w v l) {B : Nat} (hB : w.heap.size ≤ B) (hb : Below B w w') : PrRow w' v l := by
  obtain ⟨a, cap, rfl, h1, h2, h3⟩ := h
  refine ⟨a, cap, rfl, h1, h2, fun i hi => ?_⟩
  obtain ⟨b, off, rfl, h4, h5⟩ := h3 i hi
  exact ⟨b, off, rfl, Nat.lt_of_lt_of_le h4 hb.size, h5.below hb (Nat.lt_of_lt_of_le h4 hB)⟩
theorem PrRow.at0 {w : World} {v : Value} {l : List Pr} (h : PrRow w v l) (hl : 0 < l.length) : ∃ b off cap, v = .slice (some ⟨b, off, none⟩) l.length cap ∧ l.length ≤ cap ∧ cap ≤ 9223372036854775807 ∧ b < w.heap.size ∧ ∀ i, i < l.length → PrAt w b (off + i * 8) (pAt l i) := by
  obtain ⟨a, cap, rfl, h1, h2, h3⟩ := h
  obtain ⟨b, off, rfl, h4, h5⟩ := h3 0 hl
  refine ⟨b, off, cap, rfl, h1, h2, h4, fun i hi => ?_⟩
  obtain ⟨b', off', h7, h8, h9⟩ := h3 i hi
  simp only [Option.some.injEq, Addr.mk.injEq, and_true] at h7
  obtain ⟨rfl, rfl⟩ := h7
  exact h9
theorem PrRow.len {w : World} {v : Value} {l : List Pr} (h : PrRow w v l) : ∃ a cap, v = .slice a l.length cap ∧ l.length ≤ cap ∧ cap ≤ 9223372036854775807 := by
  obtain ⟨a, cap, rfl, h1, h2, _⟩ := h
  exact ⟨a, cap, rfl, h1, h2⟩
/-- The cells of a peer, and of a site whose peers are the slice pv. -/
def encP (p : Pr) : Array Value := #[.int .i64 p.au, .int .i64 p.er, .int .i64 p.co, .int .i64 p.at_, .int .i64 p.ol, .int .i64 p.oh, .int .i64 p.bl, .int .i64 p.bh]
/-- v, of c.length elements, owns a row of truth values from block base on. -/
def OwnBs (w : World) (base : Nat) (v : Value) (c : List Bool) : Prop := w.ownsRow base 4 1 v c.length (c.map Value.bool)
theorem OwnBs.nil (w : World) (base : Nat) : OwnBs w base (.slice none 0 0) [] := World.ownsRow_nil _ _ _ _
theorem OwnBs.app {w : World} {base : Nat} {v : Value} {c : List Bool} {a : Bool} (h : w.ownsRow base 4 1 v (c.length + 1) (c.map Value.bool ++ [.bool a])) : OwnBs w base v (c ++ [a]) := by
  unfold OwnBs
  rw [List.map_append, show (c ++ [a]).length = c.length + 1 by simp]
  exact h
theorem OwnBs.below {w w' : World} {base : Nat} {v : Value} {c : List Bool} (h : OwnBs w base v c) {B : Nat} (hB : w.heap.size ≤ B) (hb : Below B w w') : OwnBs w' base v c := ownsRow_below h (hb.mono hB)
def bAt (c : List Bool) (i : Nat) : Bool := c.getD i false
theorem OwnBs.form {w : World} {base : Nat} {v : Value} {c : List Bool} (h : OwnBs w base v c) (h0 : 0 < c.length) : ∃ g cap, v = .slice (some ⟨g, 0, none⟩) c.length cap ∧ c.length ≤ cap ∧ cap ≤ 9223372036854775807 ∧ base ≤ g ∧ g < w.heap.size ∧ ∀ i, i < c.length → w.cell? ⟨g, i, none⟩ = some (.bool (bAt c i)) := by
  obtain ⟨g, cap, rfl, hb, hlt⟩ := World.ownsRow.form h h0
  have hcap : c.length ≤ cap ∧ cap ≤ maxLen := by
    rcases h.2 with ⟨hv, _⟩ | ⟨g', cap', cur, hv, hg, hc, hn, hm, _⟩
    · simp at hv
    · simp only [Value.slice.injEq] at hv; obtain ⟨-, -, rfl⟩ := hv; exact ⟨hn, hm⟩
  refine ⟨g, cap, rfl, hcap.1, hcap.2, hb, hlt, fun i hi => ?_⟩
  rw [World.ownsRow.cellAt h i (by omega)]
  simp [bAt, List.getD_eq_getElem?_getD, hi]
theorem OwnBs.val {w : World} {base : Nat} {v : Value} {c : List Bool} (h : OwnBs w base v c) : ∃ a cap, v = .slice a c.length cap ∧ c.length ≤ cap ∧ cap ≤ 9223372036854775807 := by
  rcases h.2 with ⟨hv, h0⟩ | ⟨g, cap, cur, hv, hg, hc, hn, hm, _⟩
  · exact ⟨none, 0, by rw [hv, h0], by omega, by omega⟩
  · exact ⟨_, cap, hv, hn, hm⟩
theorem infoBool : (Try.prog.info? 4).map (fun i => (i.zero, i.size, i.bytes)) = some (some (.bool false), 1, 1) := by kernel_rfl

/-- The first n numbers. -/
def upTo (n : Nat) : List Int := (List.range n).map fun i : Nat => (i : Int)
theorem upTo_length (n : Nat) : (upTo n).length = n := by simp [upTo]
theorem upTo_at (n i : Nat) (h : i < n) : iAt (upTo n) i = i := by rw [iAt_lt _ _ (by rw [upTo_length]; exact h)]; simp [upTo]
theorem upTo_snoc (n : Nat) : upTo (n + 1) = upTo n ++ [(n : Int)] := by simp [upTo, List.range_succ]
set_option maxRecDepth 100000 in
set_option maxHeartbeats 400000 in
theorem wdWithin_any (n lo hi : Int) (w : World) : Calls Try.prog 33 #[.int .i64 n, .int .i64 lo, .int .i64 hi] w fun e w' => e = .returned (.bool (inB n lo hi)) ∧ w = w' := by
  go_enter Try.func33, Try.ntmps33
  go_wp2
  all_goals go_ret
  all_goals exact ⟨ret_bool (by unfold inB; rw [Bool.eq_iff_iff]; simp only [decide_eq_true_eq, Bool.false_eq_true, false_iff]; omega), rfl⟩
set_option maxRecDepth 100000 in
set_option maxHeartbeats 400000 in
theorem R29in_any (n lo hi : Int) (w : World) : Calls Try.prog 38 #[.int .i64 n, .int .i64 lo, .int .i64 hi] w fun e w' => e = .returned (.bool (inB n lo hi)) ∧ w = w' := by
  go_enter Try.func38, Try.ntmps38
  go_wp2
  all_goals go_ret
  all_goals exact ⟨ret_bool (by unfold inB; rw [Bool.eq_iff_iff]; simp only [decide_eq_true_eq, Bool.false_eq_true, false_iff]; omega), rfl⟩
set_option maxRecDepth 100000 in
set_option maxHeartbeats 1000000 in
theorem wdAll_any (r f lo tm : Int) (pv : Value) (ps : List Pr) (hn : ps.length ≤ 1000) (w : World) (hp : PrRow w pv ps) :
    Calls Try.prog 55 #[.agg #[.int .i64 r, .int .i64 f, .int .i64 lo, .int .i64 tm, pv]] w fun e w' => ∃ ov, e = .returned ov ∧ OwnIs w' w.heap.size ov (upTo ps.length) ∧ Below w.heap.size w w' := by
  obtain ⟨a, cap, rfl, h1, h2⟩ := hp.len
  obtain ⟨i0, hi0, hz0, hz1, hz2⟩ := info_parts infoInt
  clear hp
  go_enter Try.func55, Try.ntmps55
  go_wp2
  go_loopw [3, 8] (fun s3 s8 wx => ∃ k : Nat, k ≤ ps.length ∧ s8 = .int .i64 k ∧ OwnIs wx w.heap.size s3 (upTo k) ∧ Below w.heap.size w wx) (fun _ s8 _ => ps.length - (intOf s8).toNat)
  case atStart => exact ⟨0, Nat.zero_le _, rfl, OwnIs.nil _ _, (by ((repeat' (first | with_reducible exact Below.refl _ _ | with_reducible refine Below.alloc ?_ ?_ _ | with_reducible refine Below.setCell ?_ ?_ _ | with_reducible refine Below.drew ?_ | with_reducible refine below_drewN ?_ _)) <;> (first | omega | (simp; done) | (simp; omega))))⟩
  case round =>
    obtain ⟨k, hk, rfl, hown, hB⟩ := hrel
    by_cases hlt : k < ps.length
    · obtain ⟨oa, ocap, hov, ho1, ho2⟩ := hown.val
      have hlow := World.ownsRow.lt hown
      have hlk := upTo_length k
      have hown' := hown
      unfold OwnIs at hown'
      rw [hlk] at hown' hov
      subst hov
      have Hlk := hide hlk
      have hz := hB.size
      clear hlk hown
      go_wp2_with (at_builtin; refine wpList_append_own _ rfl _ _ 25 rfl w.heap.size 3 i0 (.int .i64 0) 1 8 Try.underlying25 hi0 hz0 hz1 hz2 rfl (by decide) _ k (encI (upTo k)) rfl (World.ownsRow.alloc hown' _) ⟨wr.heap.size, 0, none⟩ 1 1 [.int .i64 (k : Int)] rfl rfl (cells_new wr [.int .i64 (k : Int)] _) (by simp [Value.oneCell']) (by unfold maxLen; omega) (by omega) (by simp; omega) ?_; intro v3 w3 hown3 hg3 _)
      go_roundw
      case rel =>
        refine ⟨k + 1, by omega, by go_num, by rw [upTo_snoc]; exact OwnIs.app (by rw [Hlk.out]; exact hown3), ?_⟩
        exact (hB.alloc (by omega) _).grown hg3 (by simp; omega) (fun r h => (hlow r h).1)
      case measure => simp [intOf]; omega
    · obtain rfl : k = ps.length := by omega
      go_wp2_with fail
      go_ret
      exact ⟨_, rfl, hown, hB⟩
end Go.Proofs.Ytiaahfccebmkdaa
