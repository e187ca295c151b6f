
/- Parts WdA WdB WdC WdD of the proof, joined. -/
import Derived.Test.YtlmcoollkmhanaaGb
import Derived.Test.YtlmcoollkmhanaaGc
import Derived.Deep.RegionHeld3
import Derived.Deep.RegionLaw
import Derived.IntWalk
/- Peers in memory: a row of peers that came in, a row of truth values that a call makes; opening a site and a schedule. -/
namespace Go.Proofs.Ytlmcoollkmhanaa
open Go.RowKit

def PrAt (w : World) (b o : Nat) (p : Pr) : Prop :=
 w.cell? ⟨b, o, none⟩ = some (.int .i64 p.au) ∧ w.cell? ⟨b, o + 1, none⟩ = some (.int .i64 p.er) ∧ w.cell? ⟨b, o + 2, none⟩ = some (.int .i64 p.co) ∧ w.cell? ⟨b, o + 3, none⟩ = some (.int .i64 p.at_) ∧
 w.cell? ⟨b, o + 4, none⟩ = some (.int .i64 p.ol) ∧ w.cell? ⟨b, o + 5, none⟩ = some (.int .i64 p.oh) ∧ w.cell? ⟨b, o + 6, none⟩ = some (.int .i64 p.bl) ∧ w.cell? ⟨b, o + 7, none⟩ = some (.int .i64 p.bh)
theorem PrAt.of {w w' : World} {b o : Nat} {p : Pr} (h : PrAt w b o p) (hc : ∀ i, w'.cell? ⟨b, i, none⟩ = w.cell? ⟨b, i, none⟩) : PrAt w' b o p := by
 obtain ⟨h0, h1, h2, h3, h4, h5, h6, h7⟩ := h
 exact ⟨(hc _).trans h0, (hc _).trans h1, (hc _).trans h2, (hc _).trans h3, (hc _).trans h4, (hc _).trans h5, (hc _).trans h6, (hc _).trans h7⟩
theorem PrAt.below {w w' : World} {b o : Nat} {p : Pr} (h : PrAt w b o p) {B : Nat} (hb : Below B w w') (hlt : b < B) : PrAt w' b o p := h.of (bk hb b hlt).1
def PrRow (w : World) (v : Value) (l : List Pr) : Prop :=
 ∃ a cap, v = .slice a l.length cap ∧ l.length ≤ cap ∧ cap ≤ 9223372036854775807 ∧ ∀ i, i < l.length → ∃ b off, a = some ⟨b, off, none⟩ ∧ b < w.heap.size ∧ PrAt w b (off + i * 8) (pAt l i)
theorem PrRow.below {w w' : World} {v : Value} {l : List Pr} (h : PrRow w v l) {B : Nat} (hB : w.heap.size ≤ B) (hb : Below B w w') : PrRow w' v l := by
 obtain ⟨a, cap, rfl, h1, h2, h3⟩ := h
 refine ⟨a, cap, rfl, h1, h2, fun i hi => ?_⟩
 obtain ⟨b, off, rfl, h4, h5⟩ := h3 i hi
 exact ⟨b, off, rfl, Nat.lt_of_lt_of_le h4 hb.size, h5.below hb (Nat.lt_of_lt_of_le h4 hB)⟩
theorem PrRow.len {w : World} {v : Value} {l : List Pr} (h : PrRow w v l) : ∃ a cap, v = .slice a l.length cap ∧ l.length ≤ cap ∧ cap ≤ 9223372036854775807 := by
 obtain ⟨a, cap, rfl, h1, h2, _⟩ := h
 exact ⟨a, cap, rfl, h1, h2⟩
def encP (p : Pr) : Array Value := #[.int .i64 p.au, .int .i64 p.er, .int .i64 p.co, .int .i64 p.at_, .int .i64 p.ol, .int .i64 p.oh, .int .i64 p.bl, .int .i64 p.bh]
def OwnBs (w : World) (base : Nat) (v : Value) (c : List Bool) : Prop := w.ownsRow base 4 1 v c.length (c.map Value.bool)
theorem OwnBs.nil (w : World) (base : Nat) : OwnBs w base (.slice none 0 0) [] := World.ownsRow_nil _ _ _ _
theorem OwnBs.app {w : World} {base : Nat} {v : Value} {c : List Bool} {a : Bool} (h : w.ownsRow base 4 1 v (c.length + 1) (c.map Value.bool ++ [.bool a])) : OwnBs w base v (c ++ [a]) := by
 unfold OwnBs
 rw [List.map_append, show (c ++ [a]).length = c.length + 1 by simp]
 exact h
def bAt (c : List Bool) (i : Nat) : Bool := c.getD i false
theorem OwnBs.form {w : World} {base : Nat} {v : Value} {c : List Bool} (h : OwnBs w base v c) (h0 : 0 < c.length) : ∃ g cap, v = .slice (some ⟨g, 0, none⟩) c.length cap ∧ c.length ≤ cap ∧ cap ≤ 9223372036854775807 ∧ base ≤ g ∧ g < w.heap.size ∧ ∀ i, i < c.length → w.cell? ⟨g, i, none⟩ = some (.bool (bAt c i)) := by
 obtain ⟨g, cap, rfl, hb, hlt⟩ := World.ownsRow.form h h0
 have hcap : c.length ≤ cap ∧ cap ≤ maxLen := by
  rcases h.2 with ⟨hv, _⟩ | ⟨g', cap', cur, hv, hg, hc, hn, hm, _⟩
  ·simp at hv
  ·simp only [Value.slice.injEq] at hv; obtain ⟨-, -, rfl⟩ := hv; exact ⟨hn, hm⟩
 refine ⟨g, cap, rfl, hcap.1, hcap.2, hb, hlt, fun i hi => ?_⟩
 rw [World.ownsRow.cellAt h i (by omega)]
 simp [bAt, List.getD_eq_getElem?_getD, hi]
theorem OwnBs.val {w : World} {base : Nat} {v : Value} {c : List Bool} (h : OwnBs w base v c) : ∃ a cap, v = .slice a c.length cap ∧ c.length ≤ cap ∧ cap ≤ 9223372036854775807 := by
 rcases h.2 with ⟨hv, h0⟩ | ⟨g, cap, cur, hv, hg, hc, hn, hm, _⟩
 ·exact ⟨none, 0, by rw [hv, h0], by omega, by omega⟩
 ·exact ⟨_, cap, hv, hn, hm⟩
theorem infoBool : (Try.prog.info? 4).map (fun i => (i.zero, i.size, i.bytes)) = some (some (.bool false), 1, 1) := by kernel_rfl

def upTo (n : Nat) : List Int := (List.range n).map fun i : Nat => (i : Int)
theorem upTo_length (n : Nat) : (upTo n).length = n := by simp [upTo]
theorem upTo_at (n i : Nat) (h : i < n) : iAt (upTo n) i = i := by rw [iAt_lt _ _ (by rw [upTo_length]; exact h)]; simp [upTo]
theorem upTo_snoc (n : Nat) : upTo (n + 1) = upTo n ++ [(n : Int)] := by simp [upTo, List.range_succ]
set_option maxRecDepth 100000 in
set_option maxHeartbeats 400000 in
theorem wdWithin_any (n lo hi : Int) (w : World) : Calls Try.prog 33 #[.int .i64 n, .int .i64 lo, .int .i64 hi] w fun e w' => e = .returned (.bool (inB n lo hi)) ∧ w = w' := by
 go_enter Try.func33, Try.ntmps33
 go_wp2
 all_goals go_ret
 all_goals exact ⟨ret_bool (by unfold inB; rw [Bool.eq_iff_iff]; simp only [decide_eq_true_eq, Bool.false_eq_true, false_iff]; omega), rfl⟩
set_option maxRecDepth 100000 in
set_option maxHeartbeats 400000 in
theorem R29in_any (n lo hi : Int) (w : World) : Calls Try.prog 43 #[.int .i64 n, .int .i64 lo, .int .i64 hi] w fun e w' => e = .returned (.bool (inB n lo hi)) ∧ w = w' := by
 go_enter Try.func43, Try.ntmps43
 go_wp2
 all_goals go_ret
 all_goals exact ⟨ret_bool (by unfold inB; rw [Bool.eq_iff_iff]; simp only [decide_eq_true_eq, Bool.false_eq_true, false_iff]; omega), rfl⟩
set_option maxRecDepth 100000 in
set_option maxHeartbeats 1000000 in
theorem wdAll_any (r f lo tm : Int) (pv : Value) (ps : List Pr) (hn : ps.length ≤ 1000) (w : World) (hp : PrRow w pv ps) :
  Calls Try.prog 47 #[.agg #[.int .i64 r, .int .i64 f, .int .i64 lo, .int .i64 tm, pv]] w fun e w' => ∃ ov, e = .returned ov ∧ OwnIs w' w.heap.size ov (upTo ps.length) ∧ Below w.heap.size w w' := by
 obtain ⟨a, cap, rfl, h1, h2⟩ := hp.len
 obtain ⟨i0, hi0, hz0, hz1, hz2⟩ := info_parts infoInt
 clear hp
 go_enter Try.func47, Try.ntmps47
 go_wp2
 go_loopw [3, 8] (fun s3 s8 wx => ∃ k : Nat, k ≤ ps.length ∧ s8 = .int .i64 k ∧ OwnIs wx w.heap.size s3 (upTo k) ∧ Below w.heap.size w wx) (fun _ s8 _ => ps.length - (intOf s8).toNat)
 case atStart => exact ⟨0, Nat.zero_le _, rfl, OwnIs.nil _ _, (by ((with_reducible repeat' first | exact .refl _ _ | refine .alloc ?_ ?_ _ | refine .setCell ?_ ?_ _ | refine .drew ?_ | refine below_drewN ?_ _) <;> first | omega | simp <;> omega))⟩
 case round =>
  obtain ⟨k, hk, rfl, hown, hB⟩ := hrel
  by_cases hlt : k < ps.length
  ·obtain ⟨oa, ocap, hov, ho1, ho2⟩ := hown.val
   have hlow := World.ownsRow.lt hown
   have hlk := upTo_length k
   have hown' := hown
   unfold OwnIs at hown'
   rw [hlk] at hown' hov
   subst hov
   have Hlk := hide hlk
   have hz := hB.size
   clear hlk hown
   go_wp2_with (at_builtin; refine wpList_append_own _ rfl _ _ 25 rfl w.heap.size 3 i0 (.int .i64 0) 1 8 Try.underlying25 hi0 hz0 hz1 hz2 rfl (by decide) _ k (encI (upTo k)) rfl (World.ownsRow.alloc hown' _) ⟨wr.heap.size, 0, none⟩ 1 1 [.int .i64 (k : Int)] rfl rfl (cells_new wr [.int .i64 (k : Int)] _) (by simp [Value.oneCell']) (by unfold maxLen; omega) (by omega) (by simp; omega) ?_; intro v3 w3 hown3 hg3 _)
   go_roundw
   case rel =>
    refine ⟨k + 1, by omega, by go_num, by rw [upTo_snoc]; exact OwnIs.app (by rw [Hlk.out]; exact hown3), ?_⟩
    exact (hB.alloc (by omega) _).grown hg3 (by simp; omega) (fun r h => (hlow r h).1)
   case measure => simp [intOf]; omega
  ·obtain rfl : k = ps.length := by omega
   go_wp2_with fail
   go_ret
   exact ⟨_, rfl, hown, hB⟩
end Go.Proofs.Ytlmcoollkmhanaa
/- Package width: what is made of one peer. -/
namespace Go.Proofs.Ytlmcoollkmhanaa
open Go.RowKit
attribute [local go_sem ↓] run_max_mx run_min_mn

set_option maxRecDepth 100000 in
set_option maxHeartbeats 400000 in
theorem wdAuth_any (p : Pr) (r f lo tm : Int) (pv : Value) (w : World) : Calls Try.prog 49 #[.agg #[.int .i64 p.au, .int .i64 p.er, .int .i64 p.co, .int .i64 p.at_, .int .i64 p.ol, .int .i64 p.oh, .int .i64 p.bl, .int .i64 p.bh, .int .i64 r, .int .i64 f, .int .i64 lo, .int .i64 tm, pv]] w fun e w' =>
  e = .returned (.int .i64 p.au) ∧ Below w.heap.size w w' := by
 go_enter Try.func49, Try.ntmps49
 go_wp2
 go_ret
 exact ⟨rfl, (by ((with_reducible repeat' first | exact .refl _ _ | refine .alloc ?_ ?_ _ | refine .setCell ?_ ?_ _ | refine .drew ?_ | refine below_drewN ?_ _) <;> first | omega | simp <;> omega))⟩
set_option maxRecDepth 100000 in
set_option maxHeartbeats 400000 in
theorem wdWidth_any (p : Pr) (r f lo tm : Int) (pv : Value) (w : World) (he : 0 ≤ p.er ∧ p.er ≤ 1000000) (hl : 0 ≤ p.ol ∧ p.ol ≤ 1000000) (hh : 0 ≤ p.oh ∧ p.oh ≤ 1000000) : Calls Try.prog 19 #[.agg #[.int .i64 p.au, .int .i64 p.er, .int .i64 p.co, .int .i64 p.at_, .int .i64 p.ol, .int .i64 p.oh, .int .i64 p.bl, .int .i64 p.bh, .int .i64 r, .int .i64 f, .int .i64 lo, .int .i64 tm, pv]] w fun e w' =>
  e = .returned (.int .i64 (pWd p)) ∧ Below w.heap.size w w' := by
 go_enter Try.func19, Try.ntmps19
 go_wp2
 go_ret
 exact ⟨ret_int rfl, (by ((with_reducible repeat' first | exact .refl _ _ | refine .alloc ?_ ?_ _ | refine .setCell ?_ ?_ _ | refine .drew ?_ | refine below_drewN ?_ _) <;> first | omega | simp <;> omega))⟩
theorem sn_max (ol oh bl bh : Int) : (lkB ol oh bl bh = true → snEr ol oh bl bh 3000000000000000 3000000000000000 = 0) ∧ (lkB ol oh bl bh = false → snEr ol oh bl bh 3000000000000000 3000000000000000 = 1) := by
 have hv : validB 3000000000000000 3000000000000000 = true := by rw [validB_iff]; omega
 constructor
 ·intro h
  have hl := (lkB_iff _ _ _ _).1 h
  unfold snEr snOk
  rw [h, hv, if_pos (by rfl), if_neg (by omega)]
 ·intro h; unfold snEr snOk; rw [h]; rfl
set_option maxRecDepth 100000 in
set_option maxHeartbeats 1000000 in
theorem wdWrong_any (p : Pr) (r f lo tm : Int) (pv : Value) (w : World) (hr : 0 ≤ r ∧ r ≤ 1000000) : Calls Try.prog 48 #[.agg #[.int .i64 p.au, .int .i64 p.er, .int .i64 p.co, .int .i64 p.at_, .int .i64 p.ol, .int .i64 p.oh, .int .i64 p.bl, .int .i64 p.bh, .int .i64 r, .int .i64 f, .int .i64 lo, .int .i64 tm, pv]] w fun e w' =>
  e = .returned (.bool (!prB r tm p)) ∧ Below w.heap.size w w' := by
 cases h1 : lkB p.ol p.oh p.bl p.bh with
 | false =>
  have e1 : prB r tm p = false := by unfold prB; rw [h1]; rfl
  have e2 := (sn_max p.ol p.oh p.bl p.bh).2 h1
  rw [e1]
  clear e1
  go_enter Try.func48, Try.ntmps48
  go_wp2_with (go_at_call 67; refine (Sent_any _ _ _ _ _ _ _ _).mono ?_; rintro e w1 ⟨rfl, b1⟩; obtain ⟨kb1_0, fb1_0, zb1_0, zab1_0, zbb1_0, zcb1_0, zdb1_0, zeb1_0⟩ := bk3 b1 (w.heap.size) (by first | omega | simp <;> omega); rw [e2])
  go_ret
  exact ⟨rfl, (by ((with_reducible repeat' first | exact .refl _ _ | exact b1 | refine .alloc ?_ ?_ _ | refine .setCell ?_ ?_ _ | refine .drew ?_ | refine below_drewN ?_ _ | refine Below.trans ?_ (b1.mono ?_)) <;> first | omega | simp <;> omega))⟩
 | true =>
  have hl := (lkB_iff _ _ _ _).1 h1
  have e2 := (sn_max p.ol p.oh p.bl p.bh).1 h1
  have hel : elEr r (p.oh + p.bh) = 0 := by unfold elEr; rw [if_pos ((elOk_iff _ _).2 (by omega))]
  have e1 : prB r tm p = (inB p.au 1 16 && inB p.er 0 1000000 && inB p.co 0 1000000 && decide (ctHi r (p.oh + p.bh) ≤ tm)) := by unfold prB; rw [h1, Bool.true_and]
  rw [e1]
  generalize hc : ctHi r (p.oh + p.bh) = c
  by_cases h5 : c ≤ tm
  ·have d5 : decide (c ≤ tm) = true := decide_eq_true h5
   cases h2 : inB p.au 1 16 <;> cases h3 : inB p.er 0 1000000 <;> cases h4 : inB p.co 0 1000000
   all_goals
    have Hc := hide hc
    have He := hide e1
    clear hc e1 h5
    go_enter Try.func48, Try.ntmps48
    go_wp2_with (first | (go_at_call 67; refine (Sent_any _ _ _ _ _ _ _ _).mono ?_; rintro e w1 ⟨rfl, b1⟩; obtain ⟨kb1_0, fb1_0, zb1_0, zab1_0, zbb1_0, zcb1_0, zdb1_0, zeb1_0⟩ := bk3 b1 (w.heap.size) (by first | omega | simp <;> omega); rw [e2]) | (go_at_call 68; refine (Counts_any _ _ _).mono ?_; rintro e w2 ⟨rfl, b2⟩; obtain ⟨kb2_0, fb2_0, zb2_0, zab2_0, zbb2_0, zcb2_0, zdb2_0, zeb2_0⟩ := bk3 b2 (w.heap.size) (by first | omega | simp <;> omega); rw [hel, Hc.out]) | (go_at_call 33; refine (wdWithin_any _ _ _ _).mono ?_; rintro e w' ⟨rfl, rfl⟩))
    go_ret
    have z1 := b1.size
    exact ⟨ret_bool (by simp [d5]), (by ((with_reducible repeat' first | exact .refl _ _ | exact b1 | exact b2 | refine .alloc ?_ ?_ _ | refine .setCell ?_ ?_ _ | refine .drew ?_ | refine below_drewN ?_ _ | refine Below.trans ?_ (b1.mono ?_) | refine Below.trans ?_ (b2.mono ?_)) <;> first | omega | simp <;> omega))⟩
  ·have d5 : decide (c ≤ tm) = false := decide_eq_false h5
   have Hc := hide hc
   have He := hide e1
   clear hc e1 h5
   go_enter Try.func48, Try.ntmps48
   go_wp2_with (first | (go_at_call 67; refine (Sent_any _ _ _ _ _ _ _ _).mono ?_; rintro e w1 ⟨rfl, b1⟩; obtain ⟨kb1_0, fb1_0, zb1_0, zab1_0, zbb1_0, zcb1_0, zdb1_0, zeb1_0⟩ := bk3 b1 (w.heap.size) (by first | omega | simp <;> omega); rw [e2]) | (go_at_call 68; refine (Counts_any _ _ _).mono ?_; rintro e w2 ⟨rfl, b2⟩; obtain ⟨kb2_0, fb2_0, zb2_0, zab2_0, zbb2_0, zcb2_0, zdb2_0, zeb2_0⟩ := bk3 b2 (w.heap.size) (by first | omega | simp <;> omega); rw [hel, Hc.out]) | (go_at_call 33; refine (wdWithin_any _ _ _ _).mono ?_; rintro e w' ⟨rfl, rfl⟩))
   go_ret
   have z1 := b1.size
   exact ⟨ret_bool (by simp [d5]), (by ((with_reducible repeat' first | exact .refl _ _ | exact b1 | exact b2 | refine .alloc ?_ ?_ _ | refine .setCell ?_ ?_ _ | refine .drew ?_ | refine below_drewN ?_ _ | refine Below.trans ?_ (b1.mono ?_) | refine Below.trans ?_ (b2.mono ?_)) <;> first | omega | simp <;> omega))⟩
end Go.Proofs.Ytlmcoollkmhanaa
/- Package width: what is made of some peers of a site. -/
namespace Go.Proofs.Ytlmcoollkmhanaa
open Go.RowKit
theorem step_append_own {P : Program} {ops : Array Oper} {o : Oper} {a : Act} {w : World} {K : Act → World → Prop} {Q : Exit → Act → World → Prop} {E : Prop}
  (hg : o.guard = none) (s x : Operand) (t : TypeId) (hop : o.op = Op.call { callee := Callee.builtin Builtin.append, args := #[s, x], argTypes := #[t, t] })
  (base : Nat) (e : TypeId) (i : TypeInfo) (z : Value) (size bytes : Nat) (h1 : P.underlying t = some (.slice e)) (h2 : P.info? e = some i) (h3 : i.zero = some z) (h4 : i.size = size) (h5 : i.bytes = bytes) (h6 : z.cells.size = size) (h7 : 0 < size)
  (v : Value) (n : Nat) (olds : List Value) (hs : a.eval s = v) (hown : w.ownsRow base e size v n olds)
  (ad : Addr) (m c : Nat) (news : List Value) (hx : a.eval x = .slice (some ad) m c) (hn : news.length = m * size) (hc : ∀ j u, news[j]? = some u → w.cell? (ad.add j) = some u) (h1c : ∀ u ∈ news, u.oneCell' = true)
  (b1 : n + m ≤ maxLen) (b2 : (n + m) * bytes ≤ 140737488355328) (b3 : base ≤ w.heap.size)
  (hK : ∀ v' w', w'.ownsRow base e size v' (n + m) (olds ++ news) → w.grownBy w' v.ownBlock → K (a.put o.dst v') w') :
  if Region.wanted o (yielded ops a.tmps) = true then Oper.wp P o a w K Q else E := by
 have hw : Region.wanted o (yielded ops a.tmps) = true := by simp [Region.wanted, hg]
 rw [if_pos hw]
 obtain ⟨v', w', hrun, r1, r2, _⟩ := run_append_own (P := P) w base t o.type e i z size bytes h1 h2 h3 h4 h5 h6 h7 v n olds hown ad m c news hn hc h1c b1 b2 b3
 unfold Oper.wp
 simp [execOp, hop, resolve, invoke, builtin, hs, hx, hrun, Result.andThen]
 exact hK v' w' r1 r2
set_option maxRecDepth 100000 in
set_option maxHeartbeats 1000000 in
theorem wdPeersAuth_any (r f lo tm : Int) (pv : Value) (ps : List Pr) (uv : Value) (use : List Int) (w : World) (hp : PrRow w pv ps) (hu : IsRow w uv use) (hul : use.length ≤ 1000) (hin : ∀ j, j < use.length → 0 ≤ iAt use j ∧ iAt use j < ps.length) :
  Calls Try.prog 18 #[.agg #[.int .i64 r, .int .i64 f, .int .i64 lo, .int .i64 tm, pv], uv, .func (.func 49) #[] #[]] w fun e w' => ∃ ov, e = .returned ov ∧ OwnIs w' w.heap.size ov (use.map fun i => Pr.au (pAt ps i.toNat)) ∧ Below w.heap.size w w' := by
 obtain ⟨i0, hi0, hz0, hz1, hz2⟩ := info_parts infoInt
 obtain ⟨pa, pc, rfl, q1, q2, q3⟩ := hp
 obtain ⟨ua, uc, rfl, u1, u2, u3⟩ := hu
 go_enter Try.func18, Try.ntmps18
 go_wp2
 go_loopw [7, 12] (fun s7 s12 wx => ∃ k : Nat, k ≤ use.length ∧ s12 = .int .i64 k ∧ OwnIs wx (w.heap.size + 1) s7 ((use.take k).map fun i => Pr.au (pAt ps i.toNat)) ∧ Below (w.heap.size + 1) (w.alloc (.cells #[.int .i64 r, .int .i64 f, .int .i64 lo, .int .i64 tm, .slice pa ps.length pc] 24)) wx) (fun _ s12 _ => use.length - (intOf s12).toNat)
 case atStart => exact ⟨0, Nat.zero_le _, rfl, by rw [List.take_zero]; exact OwnIs.nil _ _, Below.refl _ _⟩
 case round =>
  obtain ⟨k, hk, rfl, hown, hB⟩ := hrel
  have hBw : Below w.heap.size w wr := ((Below.refl _ _).alloc (Nat.le_refl _) _).trans (hB.mono (by omega))
  have hlk : ((use.take k).map fun i => Pr.au (pAt ps i.toNat)).length = k := by rw [List.length_map, List.length_take]; omega
  by_cases hlt : k < use.length
  ·obtain ⟨ub, uo, rfl, u4, u5⟩ := u3 k hlt
   have hki := hin k hlt
   obtain ⟨q, hq⟩ : ∃ q : Nat, iAt use k = q := ⟨(iAt use k).toNat, by omega⟩
   rw [hq] at u5 hki
   have hql : q < ps.length := by omega
   obtain ⟨pb, po, rfl, q4, q5⟩ := q3 q hql
   have u5' := (hBw.cell (p := ⟨ub, uo + k, none⟩) u4).trans u5
   have hzr : w.heap.size + 1 ≤ wr.heap.size := by have := hB.size; simpa using this
   have hsn : (use.take (k + 1)).map (fun i => Pr.au (pAt ps i.toNat)) = ((use.take k).map fun i => Pr.au (pAt ps i.toNat)) ++ [Pr.au (pAt ps q)] := by
    rw [take_snoc_is use k hlt, hq]; simp
   have I1 : (0 : Int) ≤ (q : Int) := by omega
   have I2 : (q : Int) < (ps.length : Int) := by omega
   obtain ⟨oa, ocap, hov, ho1, ho2⟩ := hown.val
   have hlow := World.ownsRow.lt hown
   have hown' := hown
   unfold OwnIs at hown'
   rw [hlk] at hown' hov
   subst hov
   have Hlk := hide hlk
   have Hsn := hide hsn
   have Hq := hide hq
   have q4' : pb < wr.heap.size := Nat.lt_of_lt_of_le q4 hBw.size
   have zd : wr.drew.heap.size = wr.heap.size := rfl
   generalize hP : pAt ps q = p at *
   have HP := hide hP
   have hS : ∀ W : World, Below (w.heap.size + 1) (w.alloc (.cells #[.int .i64 r, .int .i64 f, .int .i64 lo, .int .i64 tm, .slice (some ⟨pb, po, none⟩) ps.length pc] 24)) W → W.cell? ⟨pb, po + q * 8, none⟩ = some (.int .i64 p.au) ∧ W.cell? ⟨pb, po + q * 8 + 1, none⟩ = some (.int .i64 p.er) ∧ W.cell? ⟨pb, po + q * 8 + 2, none⟩ = some (.int .i64 p.co) ∧ W.cell? ⟨pb, po + q * 8 + 3, none⟩ = some (.int .i64 p.at_) ∧ W.cell? ⟨pb, po + q * 8 + 4, none⟩ = some (.int .i64 p.ol) ∧ W.cell? ⟨pb, po + q * 8 + 5, none⟩ = some (.int .i64 p.oh) ∧ W.cell? ⟨pb, po + q * 8 + 6, none⟩ = some (.int .i64 p.bl) ∧ W.cell? ⟨pb, po + q * 8 + 7, none⟩ = some (.int .i64 p.bh) ∧
    W.cell? ⟨w.heap.size, 0, none⟩ = some (.int .i64 r) ∧ W.cell? ⟨w.heap.size, 1, none⟩ = some (.int .i64 f) ∧ W.cell? ⟨w.heap.size, 2, none⟩ = some (.int .i64 lo) ∧ W.cell? ⟨w.heap.size, 3, none⟩ = some (.int .i64 tm) ∧ W.cell? ⟨w.heap.size, 4, none⟩ = some (.slice (some ⟨pb, po, none⟩) ps.length pc) := by
    intro W hW
    obtain ⟨p0, p1, p2, p3, p4, p5, p6, p7⟩ := q5.below (((Below.refl w.heap.size w).alloc (Nat.le_refl _) _).trans (hW.mono (by omega))) q4
    have hc := (bk hW w.heap.size (by omega)).1
    exact ⟨p0, p1, p2, p3, p4, p5, p6, p7, (hc 0).trans (by simp), (hc 1).trans (by simp), (hc 2).trans (by simp), (hc 3).trans (by simp), (hc 4).trans (by simp)⟩
   obtain ⟨p0, p1, p2, p3, p4, p5, p6, p7, y0, y1, y2, y3, y4⟩ := hS wr hB
   have HS := hide hS
   clear hlk hsn hq hown u3 q3 u5 q5 hin hP hS
   go_wp2
   go_region_held3 (fun W => W.cell? ⟨pb, po + q * 8, none⟩ = some (.int .i64 p.au) ∧ W.cell? ⟨pb, po + q * 8 + 1, none⟩ = some (.int .i64 p.er) ∧ W.cell? ⟨pb, po + q * 8 + 2, none⟩ = some (.int .i64 p.co) ∧ W.cell? ⟨pb, po + q * 8 + 3, none⟩ = some (.int .i64 p.at_) ∧ W.cell? ⟨pb, po + q * 8 + 4, none⟩ = some (.int .i64 p.ol) ∧ W.cell? ⟨pb, po + q * 8 + 5, none⟩ = some (.int .i64 p.oh) ∧ W.cell? ⟨pb, po + q * 8 + 6, none⟩ = some (.int .i64 p.bl) ∧ W.cell? ⟨pb, po + q * 8 + 7, none⟩ = some (.int .i64 p.bh) ∧
    W.cell? ⟨w.heap.size, 0, none⟩ = some (.int .i64 r) ∧ W.cell? ⟨w.heap.size, 1, none⟩ = some (.int .i64 f) ∧ W.cell? ⟨w.heap.size, 2, none⟩ = some (.int .i64 lo) ∧ W.cell? ⟨w.heap.size, 3, none⟩ = some (.int .i64 tm) ∧ W.cell? ⟨w.heap.size, 4, none⟩ = some (.slice (some ⟨pb, po, none⟩) ps.length pc)) (exact HS.out _ (by ((with_reducible repeat' first | exact .refl _ _ | exact hB3 | exact b1 | exact hB | refine .alloc ?_ ?_ _ | refine .setCell ?_ ?_ _ | refine .drew ?_ | refine below_drewN ?_ _ | refine Below.trans ?_ (hB3.mono ?_) | refine Below.trans ?_ (b1.mono ?_) | refine Below.trans ?_ (hB.mono ?_)) <;> first | omega | simp <;> omega)))
    (first | (go_at_call 49; refine (wdAuth_any p r f lo tm _ _).mono ?_; rintro e w1 ⟨rfl, b1⟩; have z1 := b1.size) | ((refine step_append_own rfl (.tmp 16) (.tmp 26) 25 rfl (w.heap.size + 1) 3 i0 (.int .i64 0) 1 8 Try.underlying25 hi0 hz0 hz1 hz2 rfl (by decide) _ k _ (by simp [Act.eval]) (World.ownsRow.alloc (ownsRow_below hown' (by ((with_reducible repeat' first | exact .refl _ _ | exact b1 | refine .alloc ?_ ?_ _ | refine .setCell ?_ ?_ _ | refine .drew ?_ | refine below_drewN ?_ _ | refine Below.trans ?_ (b1.mono ?_)) <;> first | omega | simp <;> omega))) _) ⟨w1.heap.size, 0, none⟩ 1 1 [.int .i64 p.au] (by simp [Act.eval]) rfl (cells_new w1 [.int .i64 p.au] _) (by simp [Value.oneCell']) (by unfold maxLen; omega) (by omega) (by have := b1.size; first | omega | (simp; omega)) ?_; intro v3 w3 hown3 hg3; have hB3 : Below (w.heap.size + 1) (w.alloc (.cells #[.int .i64 r, .int .i64 f, .int .i64 lo, .int .i64 tm, .slice (some ⟨pb, po, none⟩) ps.length pc] 24)) w3 := Below.grown (by ((with_reducible repeat' first | exact .refl _ _ | exact b1 | exact hB | refine .alloc ?_ ?_ _ | refine .setCell ?_ ?_ _ | refine .drew ?_ | refine below_drewN ?_ _ | refine Below.trans ?_ (b1.mono ?_) | refine Below.trans ?_ (hB.mono ?_)) <;> first | omega | simp <;> omega)) hg3 (by have := b1.size; first | omega | (simp; omega)) (fun r h => (hlow r h).1))))
   go_wp2
   go_roundw
   case rel => exact ⟨k + 1, by omega, by go_num, by rw [Hsn.out]; exact OwnIs.app (by rw [Hlk.out]; exact hown3), hB3⟩
   case measure => simp [intOf]; omega
  ·obtain rfl : k = use.length := by omega
   rw [List.take_length] at hown
   go_wp2_with fail
   go_ret
   exact ⟨_, rfl, World.ownsRow.mono hown (by omega), hBw⟩
set_option maxRecDepth 100000 in
set_option maxHeartbeats 1000000 in
theorem wdPeersWidth_any (r f lo tm : Int) (pv : Value) (ps : List Pr) (uv : Value) (use : List Int) (w : World) (hp : PrRow w pv ps) (hu : IsRow w uv use) (hul : use.length ≤ 1000) (hin : ∀ j, j < use.length → 0 ≤ iAt use j ∧ iAt use j < ps.length) (hok : ∀ j, j < ps.length → (0 ≤ (pAt ps j).er ∧ (pAt ps j).er ≤ 1000000) ∧ (0 ≤ (pAt ps j).ol ∧ (pAt ps j).ol ≤ 1000000) ∧ (0 ≤ (pAt ps j).oh ∧ (pAt ps j).oh ≤ 1000000)) :
  Calls Try.prog 18 #[.agg #[.int .i64 r, .int .i64 f, .int .i64 lo, .int .i64 tm, pv], uv, .func (.func 19) #[] #[]] w fun e w' => ∃ ov, e = .returned ov ∧ OwnIs w' w.heap.size ov (use.map fun i => pWd (pAt ps i.toNat)) ∧ Below w.heap.size w w' := by
 obtain ⟨i0, hi0, hz0, hz1, hz2⟩ := info_parts infoInt
 obtain ⟨pa, pc, rfl, q1, q2, q3⟩ := hp
 obtain ⟨ua, uc, rfl, u1, u2, u3⟩ := hu
 go_enter Try.func18, Try.ntmps18
 go_wp2
 go_loopw [7, 12] (fun s7 s12 wx => ∃ k : Nat, k ≤ use.length ∧ s12 = .int .i64 k ∧ OwnIs wx (w.heap.size + 1) s7 ((use.take k).map fun i => pWd (pAt ps i.toNat)) ∧ Below (w.heap.size + 1) (w.alloc (.cells #[.int .i64 r, .int .i64 f, .int .i64 lo, .int .i64 tm, .slice pa ps.length pc] 24)) wx) (fun _ s12 _ => use.length - (intOf s12).toNat)
 case atStart => exact ⟨0, Nat.zero_le _, rfl, by rw [List.take_zero]; exact OwnIs.nil _ _, Below.refl _ _⟩
 case round =>
  obtain ⟨k, hk, rfl, hown, hB⟩ := hrel
  have hBw : Below w.heap.size w wr := ((Below.refl _ _).alloc (Nat.le_refl _) _).trans (hB.mono (by omega))
  have hlk : ((use.take k).map fun i => pWd (pAt ps i.toNat)).length = k := by rw [List.length_map, List.length_take]; omega
  by_cases hlt : k < use.length
  ·obtain ⟨ub, uo, rfl, u4, u5⟩ := u3 k hlt
   have hki := hin k hlt
   obtain ⟨q, hq⟩ : ∃ q : Nat, iAt use k = q := ⟨(iAt use k).toNat, by omega⟩
   rw [hq] at u5 hki
   have hql : q < ps.length := by omega
   obtain ⟨pb, po, rfl, q4, q5⟩ := q3 q hql
   have u5' := (hBw.cell (p := ⟨ub, uo + k, none⟩) u4).trans u5
   have hzr : w.heap.size + 1 ≤ wr.heap.size := by have := hB.size; simpa using this
   have hsn : (use.take (k + 1)).map (fun i => pWd (pAt ps i.toNat)) = ((use.take k).map fun i => pWd (pAt ps i.toNat)) ++ [pWd (pAt ps q)] := by
    rw [take_snoc_is use k hlt, hq]; simp
   have I1 : (0 : Int) ≤ (q : Int) := by omega
   have I2 : (q : Int) < (ps.length : Int) := by omega
   obtain ⟨oa, ocap, hov, ho1, ho2⟩ := hown.val
   have hlow := World.ownsRow.lt hown
   have hown' := hown
   unfold OwnIs at hown'
   rw [hlk] at hown' hov
   subst hov
   have Hlk := hide hlk
   have Hsn := hide hsn
   have Hq := hide hq
   have q4' : pb < wr.heap.size := Nat.lt_of_lt_of_le q4 hBw.size
   have zd : wr.drew.heap.size = wr.heap.size := rfl
   obtain ⟨hk1, hk2, hk3⟩ := hok q hql
   clear hok
   generalize hP : pAt ps q = p at *
   have HP := hide hP
   have hS : ∀ W : World, Below (w.heap.size + 1) (w.alloc (.cells #[.int .i64 r, .int .i64 f, .int .i64 lo, .int .i64 tm, .slice (some ⟨pb, po, none⟩) ps.length pc] 24)) W → W.cell? ⟨pb, po + q * 8, none⟩ = some (.int .i64 p.au) ∧ W.cell? ⟨pb, po + q * 8 + 1, none⟩ = some (.int .i64 p.er) ∧ W.cell? ⟨pb, po + q * 8 + 2, none⟩ = some (.int .i64 p.co) ∧ W.cell? ⟨pb, po + q * 8 + 3, none⟩ = some (.int .i64 p.at_) ∧ W.cell? ⟨pb, po + q * 8 + 4, none⟩ = some (.int .i64 p.ol) ∧ W.cell? ⟨pb, po + q * 8 + 5, none⟩ = some (.int .i64 p.oh) ∧ W.cell? ⟨pb, po + q * 8 + 6, none⟩ = some (.int .i64 p.bl) ∧ W.cell? ⟨pb, po + q * 8 + 7, none⟩ = some (.int .i64 p.bh) ∧
    W.cell? ⟨w.heap.size, 0, none⟩ = some (.int .i64 r) ∧ W.cell? ⟨w.heap.size, 1, none⟩ = some (.int .i64 f) ∧ W.cell? ⟨w.heap.size, 2, none⟩ = some (.int .i64 lo) ∧ W.cell? ⟨w.heap.size, 3, none⟩ = some (.int .i64 tm) ∧ W.cell? ⟨w.heap.size, 4, none⟩ = some (.slice (some ⟨pb, po, none⟩) ps.length pc) := by
    intro W hW
    obtain ⟨p0, p1, p2, p3, p4, p5, p6, p7⟩ := q5.below (((Below.refl w.heap.size w).alloc (Nat.le_refl _) _).trans (hW.mono (by omega))) q4
    have hc := (bk hW w.heap.size (by omega)).1
    exact ⟨p0, p1, p2, p3, p4, p5, p6, p7, (hc 0).trans (by simp), (hc 1).trans (by simp), (hc 2).trans (by simp), (hc 3).trans (by simp), (hc 4).trans (by simp)⟩
   obtain ⟨p0, p1, p2, p3, p4, p5, p6, p7, y0, y1, y2, y3, y4⟩ := hS wr hB
   have HS := hide hS
   clear hlk hsn hq hown u3 q3 u5 q5 hin hP hS
   go_wp2
   go_region_held3 (fun W => W.cell? ⟨pb, po + q * 8, none⟩ = some (.int .i64 p.au) ∧ W.cell? ⟨pb, po + q * 8 + 1, none⟩ = some (.int .i64 p.er) ∧ W.cell? ⟨pb, po + q * 8 + 2, none⟩ = some (.int .i64 p.co) ∧ W.cell? ⟨pb, po + q * 8 + 3, none⟩ = some (.int .i64 p.at_) ∧ W.cell? ⟨pb, po + q * 8 + 4, none⟩ = some (.int .i64 p.ol) ∧ W.cell? ⟨pb, po + q * 8 + 5, none⟩ = some (.int .i64 p.oh) ∧ W.cell? ⟨pb, po + q * 8 + 6, none⟩ = some (.int .i64 p.bl) ∧ W.cell? ⟨pb, po + q * 8 + 7, none⟩ = some (.int .i64 p.bh) ∧
    W.cell? ⟨w.heap.size, 0, none⟩ = some (.int .i64 r) ∧ W.cell? ⟨w.heap.size, 1, none⟩ = some (.int .i64 f) ∧ W.cell? ⟨w.heap.size, 2, none⟩ = some (.int .i64 lo) ∧ W.cell? ⟨w.heap.size, 3, none⟩ = some (.int .i64 tm) ∧ W.cell? ⟨w.heap.size, 4, none⟩ = some (.slice (some ⟨pb, po, none⟩) ps.length pc)) (exact HS.out _ (by ((with_reducible repeat' first | exact .refl _ _ | exact hB3 | exact b1 | exact hB | refine .alloc ?_ ?_ _ | refine .setCell ?_ ?_ _ | refine .drew ?_ | refine below_drewN ?_ _ | refine Below.trans ?_ (hB3.mono ?_) | refine Below.trans ?_ (b1.mono ?_) | refine Below.trans ?_ (hB.mono ?_)) <;> first | omega | simp <;> omega)))
    (first | (go_at_call 19; refine (wdWidth_any p r f lo tm _ _ hk1 hk2 hk3).mono ?_; rintro e w1 ⟨rfl, b1⟩; have z1 := b1.size) | ((refine step_append_own rfl (.tmp 16) (.tmp 26) 25 rfl (w.heap.size + 1) 3 i0 (.int .i64 0) 1 8 Try.underlying25 hi0 hz0 hz1 hz2 rfl (by decide) _ k _ (by simp [Act.eval]) (World.ownsRow.alloc (ownsRow_below hown' (by ((with_reducible repeat' first | exact .refl _ _ | exact b1 | refine .alloc ?_ ?_ _ | refine .setCell ?_ ?_ _ | refine .drew ?_ | refine below_drewN ?_ _ | refine Below.trans ?_ (b1.mono ?_)) <;> first | omega | simp <;> omega))) _) ⟨w1.heap.size, 0, none⟩ 1 1 [.int .i64 (pWd p)] (by simp [Act.eval]) rfl (cells_new w1 [.int .i64 (pWd p)] _) (by simp [Value.oneCell']) (by unfold maxLen; omega) (by omega) (by have := b1.size; first | omega | (simp; omega)) ?_; intro v3 w3 hown3 hg3; have hB3 : Below (w.heap.size + 1) (w.alloc (.cells #[.int .i64 r, .int .i64 f, .int .i64 lo, .int .i64 tm, .slice (some ⟨pb, po, none⟩) ps.length pc] 24)) w3 := Below.grown (by ((with_reducible repeat' first | exact .refl _ _ | exact b1 | exact hB | refine .alloc ?_ ?_ _ | refine .setCell ?_ ?_ _ | refine .drew ?_ | refine below_drewN ?_ _ | refine Below.trans ?_ (b1.mono ?_) | refine Below.trans ?_ (hB.mono ?_)) <;> first | omega | simp <;> omega)) hg3 (by have := b1.size; first | omega | (simp; omega)) (fun r h => (hlow r h).1))))
   go_wp2
   go_roundw
   case rel => exact ⟨k + 1, by omega, by go_num, by rw [Hsn.out]; exact OwnIs.app (by rw [Hlk.out]; exact hown3), hB3⟩
   case measure => simp [intOf]; omega
  ·obtain rfl : k = use.length := by omega
   rw [List.take_length] at hown
   go_wp2_with fail
   go_ret
   exact ⟨_, rfl, World.ownsRow.mono hown (by omega), hBw⟩
set_option maxRecDepth 100000 in
set_option maxHeartbeats 1000000 in
theorem wdPeersWrong_any (r f lo tm : Int) (pv : Value) (ps : List Pr) (uv : Value) (use : List Int) (w : World) (hp : PrRow w pv ps) (hu : IsRow w uv use) (hul : use.length ≤ 1000) (hin : ∀ j, j < use.length → 0 ≤ iAt use j ∧ iAt use j < ps.length) (hr : 0 ≤ r ∧ r ≤ 1000000) :
  Calls Try.prog 46 #[.agg #[.int .i64 r, .int .i64 f, .int .i64 lo, .int .i64 tm, pv], uv, .func (.func 48) #[] #[]] w fun e w' => ∃ ov, e = .returned ov ∧ OwnBs w' w.heap.size ov (use.map fun i => (!prB r tm (pAt ps i.toNat))) ∧ Below w.heap.size w w' := by
 obtain ⟨i0, hi0, hz0, hz1, hz2⟩ := info_parts infoBool
 obtain ⟨pa, pc, rfl, q1, q2, q3⟩ := hp
 obtain ⟨ua, uc, rfl, u1, u2, u3⟩ := hu
 go_enter Try.func46, Try.ntmps46
 go_wp2
 go_loopw [7, 12] (fun s7 s12 wx => ∃ k : Nat, k ≤ use.length ∧ s12 = .int .i64 k ∧ OwnBs wx (w.heap.size + 1) s7 ((use.take k).map fun i => (!prB r tm (pAt ps i.toNat))) ∧ Below (w.heap.size + 1) (w.alloc (.cells #[.int .i64 r, .int .i64 f, .int .i64 lo, .int .i64 tm, .slice pa ps.length pc] 24)) wx) (fun _ s12 _ => use.length - (intOf s12).toNat)
 case atStart => exact ⟨0, Nat.zero_le _, rfl, by rw [List.take_zero]; exact OwnBs.nil _ _, Below.refl _ _⟩
 case round =>
  obtain ⟨k, hk, rfl, hown, hB⟩ := hrel
  have hBw : Below w.heap.size w wr := ((Below.refl _ _).alloc (Nat.le_refl _) _).trans (hB.mono (by omega))
  have hlk : ((use.take k).map fun i => (!prB r tm (pAt ps i.toNat))).length = k := by rw [List.length_map, List.length_take]; omega
  by_cases hlt : k < use.length
  ·obtain ⟨ub, uo, rfl, u4, u5⟩ := u3 k hlt
   have hki := hin k hlt
   obtain ⟨q, hq⟩ : ∃ q : Nat, iAt use k = q := ⟨(iAt use k).toNat, by omega⟩
   rw [hq] at u5 hki
   have hql : q < ps.length := by omega
   obtain ⟨pb, po, rfl, q4, q5⟩ := q3 q hql
   have u5' := (hBw.cell (p := ⟨ub, uo + k, none⟩) u4).trans u5
   have hzr : w.heap.size + 1 ≤ wr.heap.size := by have := hB.size; simpa using this
   have hsn : (use.take (k + 1)).map (fun i => (!prB r tm (pAt ps i.toNat))) = ((use.take k).map fun i => (!prB r tm (pAt ps i.toNat))) ++ [!prB r tm (pAt ps q)] := by
    rw [take_snoc_is use k hlt, hq]; simp
   have I1 : (0 : Int) ≤ (q : Int) := by omega
   have I2 : (q : Int) < (ps.length : Int) := by omega
   obtain ⟨oa, ocap, hov, ho1, ho2⟩ := hown.val
   have hlow := World.ownsRow.lt hown
   have hown' := hown
   unfold OwnBs at hown'
   rw [hlk] at hown' hov
   subst hov
   have Hlk := hide hlk
   have Hsn := hide hsn
   have Hq := hide hq
   have q4' : pb < wr.heap.size := Nat.lt_of_lt_of_le q4 hBw.size
   have zd : wr.drew.heap.size = wr.heap.size := rfl
   generalize hP : pAt ps q = p at *
   have HP := hide hP
   have hS : ∀ W : World, Below (w.heap.size + 1) (w.alloc (.cells #[.int .i64 r, .int .i64 f, .int .i64 lo, .int .i64 tm, .slice (some ⟨pb, po, none⟩) ps.length pc] 24)) W → W.cell? ⟨pb, po + q * 8, none⟩ = some (.int .i64 p.au) ∧ W.cell? ⟨pb, po + q * 8 + 1, none⟩ = some (.int .i64 p.er) ∧ W.cell? ⟨pb, po + q * 8 + 2, none⟩ = some (.int .i64 p.co) ∧ W.cell? ⟨pb, po + q * 8 + 3, none⟩ = some (.int .i64 p.at_) ∧ W.cell? ⟨pb, po + q * 8 + 4, none⟩ = some (.int .i64 p.ol) ∧ W.cell? ⟨pb, po + q * 8 + 5, none⟩ = some (.int .i64 p.oh) ∧ W.cell? ⟨pb, po + q * 8 + 6, none⟩ = some (.int .i64 p.bl) ∧ W.cell? ⟨pb, po + q * 8 + 7, none⟩ = some (.int .i64 p.bh) ∧
    W.cell? ⟨w.heap.size, 0, none⟩ = some (.int .i64 r) ∧ W.cell? ⟨w.heap.size, 1, none⟩ = some (.int .i64 f) ∧ W.cell? ⟨w.heap.size, 2, none⟩ = some (.int .i64 lo) ∧ W.cell? ⟨w.heap.size, 3, none⟩ = some (.int .i64 tm) ∧ W.cell? ⟨w.heap.size, 4, none⟩ = some (.slice (some ⟨pb, po, none⟩) ps.length pc) := by
    intro W hW
    obtain ⟨p0, p1, p2, p3, p4, p5, p6, p7⟩ := q5.below (((Below.refl w.heap.size w).alloc (Nat.le_refl _) _).trans (hW.mono (by omega))) q4
    have hc := (bk hW w.heap.size (by omega)).1
    exact ⟨p0, p1, p2, p3, p4, p5, p6, p7, (hc 0).trans (by simp), (hc 1).trans (by simp), (hc 2).trans (by simp), (hc 3).trans (by simp), (hc 4).trans (by simp)⟩
   obtain ⟨p0, p1, p2, p3, p4, p5, p6, p7, y0, y1, y2, y3, y4⟩ := hS wr hB
   have HS := hide hS
   clear hlk hsn hq hown u3 q3 u5 q5 hin hP hS
   go_wp2
   go_region_held3 (fun W => W.cell? ⟨pb, po + q * 8, none⟩ = some (.int .i64 p.au) ∧ W.cell? ⟨pb, po + q * 8 + 1, none⟩ = some (.int .i64 p.er) ∧ W.cell? ⟨pb, po + q * 8 + 2, none⟩ = some (.int .i64 p.co) ∧ W.cell? ⟨pb, po + q * 8 + 3, none⟩ = some (.int .i64 p.at_) ∧ W.cell? ⟨pb, po + q * 8 + 4, none⟩ = some (.int .i64 p.ol) ∧ W.cell? ⟨pb, po + q * 8 + 5, none⟩ = some (.int .i64 p.oh) ∧ W.cell? ⟨pb, po + q * 8 + 6, none⟩ = some (.int .i64 p.bl) ∧ W.cell? ⟨pb, po + q * 8 + 7, none⟩ = some (.int .i64 p.bh) ∧
    W.cell? ⟨w.heap.size, 0, none⟩ = some (.int .i64 r) ∧ W.cell? ⟨w.heap.size, 1, none⟩ = some (.int .i64 f) ∧ W.cell? ⟨w.heap.size, 2, none⟩ = some (.int .i64 lo) ∧ W.cell? ⟨w.heap.size, 3, none⟩ = some (.int .i64 tm) ∧ W.cell? ⟨w.heap.size, 4, none⟩ = some (.slice (some ⟨pb, po, none⟩) ps.length pc)) (exact HS.out _ (by ((with_reducible repeat' first | exact .refl _ _ | exact hB3 | exact b1 | exact hB | refine .alloc ?_ ?_ _ | refine .setCell ?_ ?_ _ | refine .drew ?_ | refine below_drewN ?_ _ | refine Below.trans ?_ (hB3.mono ?_) | refine Below.trans ?_ (b1.mono ?_) | refine Below.trans ?_ (hB.mono ?_)) <;> first | omega | simp <;> omega)))
    (first | (go_at_call 48; refine (wdWrong_any p r f lo tm _ _ hr).mono ?_; rintro e w1 ⟨rfl, b1⟩; have z1 := b1.size) | ((refine step_append_own rfl (.tmp 16) (.tmp 26) 90 rfl (w.heap.size + 1) 4 i0 (.bool false) 1 1 Try.underlying90 hi0 hz0 hz1 hz2 rfl (by decide) _ k _ (by simp [Act.eval]) (World.ownsRow.alloc (ownsRow_below hown' (by ((with_reducible repeat' first | exact .refl _ _ | exact b1 | refine .alloc ?_ ?_ _ | refine .setCell ?_ ?_ _ | refine .drew ?_ | refine below_drewN ?_ _ | refine Below.trans ?_ (b1.mono ?_)) <;> first | omega | simp <;> omega))) _) ⟨w1.heap.size, 0, none⟩ 1 1 [.bool (!prB r tm p)] (by simp [Act.eval]) rfl (cells_new w1 [.bool (!prB r tm p)] _) (by simp [Value.oneCell']) (by unfold maxLen; omega) (by omega) (by have := b1.size; first | omega | (simp; omega)) ?_; intro v3 w3 hown3 hg3; have hB3 : Below (w.heap.size + 1) (w.alloc (.cells #[.int .i64 r, .int .i64 f, .int .i64 lo, .int .i64 tm, .slice (some ⟨pb, po, none⟩) ps.length pc] 24)) w3 := Below.grown (by ((with_reducible repeat' first | exact .refl _ _ | exact b1 | exact hB | refine .alloc ?_ ?_ _ | refine .setCell ?_ ?_ _ | refine .drew ?_ | refine below_drewN ?_ _ | refine Below.trans ?_ (b1.mono ?_) | refine Below.trans ?_ (hB.mono ?_)) <;> first | omega | simp <;> omega)) hg3 (by have := b1.size; first | omega | (simp; omega)) (fun r h => (hlow r h).1))))
   go_wp2
   go_roundw
   case rel => exact ⟨k + 1, by omega, by go_num, by rw [Hsn.out]; exact OwnBs.app (by rw [Hlk.out]; exact hown3), hB3⟩
   case measure => simp [intOf]; omega
  ·obtain rfl : k = use.length := by omega
   rw [List.take_length] at hown
   go_wp2_with fail
   go_ret
   exact ⟨_, rfl, World.ownsRow.mono hown (by omega), hBw⟩
end Go.Proofs.Ytlmcoollkmhanaa
/- Package width: whether numbers rise, and whether a site is well-formed. -/
namespace Go.Proofs.Ytlmcoollkmhanaa
open Go.RowKit

set_option maxRecDepth 100000 in
set_option maxHeartbeats 400000 in
theorem wdIndexB_any (v : Value) (base : Nat) (c : List Bool) (w : World) (hv : OwnBs w base v c) :
  Calls Try.prog 66 #[v, .bool true] w fun e w' => (∃ r : Int, e = .returned (.int .i64 r) ∧ (r < 0 ∧ (∀ j, j < c.length → bAt c j = false) ∨ 0 ≤ r ∧ ∃ j, j < c.length ∧ bAt c j = true)) ∧ w = w' := by
 rcases Nat.eq_zero_or_pos c.length with h0 | h0
 ·obtain ⟨a, cap, rfl, h1, h2⟩ := hv.val
  go_enter Try.func66, Try.ntmps66
  go_wp2
  go_loop [5, 8] (fun _ i => i = .int .i64 0) (fun _ i => 0)
  case atStart => rfl
  case round =>
   subst hrel
   go_wp2
   go_ret
   exact ⟨⟨_, rfl, by first | omega | simp⟩, rfl⟩
 ·obtain ⟨g, cap, rfl, h1, h2, h3, h4, h5⟩ := hv.form h0
  go_enter Try.func66, Try.ntmps66
  go_wp2
  go_loop [5, 8] (fun _ i => ∃ k : Nat, k ≤ c.length ∧ i = .int .i64 k ∧ Hid (∀ j, j < k → bAt c j = false)) (fun _ i => c.length - (intOf i).toNat)
  case atStart => exact ⟨0, Nat.zero_le _, rfl, hide (fun j hj => by omega)⟩
  case round =>
   obtain ⟨k, hk, rfl, Hall⟩ := hrel
   by_cases hlt : k < c.length
   ·have h6 := h5 k hlt
    clear h5
    cases hb : bAt c k with
    | true =>
     rw [hb] at h6
     have Hb := hide hb
     clear hb
     go_wp2
     go_ret
     exact ⟨⟨_, rfl, .inr ⟨by omega, k, hlt, Hb.out⟩⟩, rfl⟩
    | false =>
     rw [hb] at h6
     have Hb := hide hb
     clear hb
     go_wp2
     go_round
     case rel => exact ⟨k + 1, by omega, by go_num, hide (fun j hj => by
      rcases Nat.lt_or_ge j k with h | h
      ·exact Hall.out j h
      ·obtain rfl : j = k := by omega
       exact Hb.out)⟩
     case measure => simp [intOf]; omega
   ·clear h5
    go_wp2
    go_ret
    exact ⟨⟨_, rfl, .inl ⟨by omega, fun j hj => Hall.out j (by omega)⟩⟩, rfl⟩
set_option maxRecDepth 100000 in
set_option maxHeartbeats 400000 in
theorem wdContainsB_any (v : Value) (base : Nat) (c : List Bool) (b : Bool) (w : World) (hv : OwnBs w base v c) (hb : b = true ↔ ∃ j, j < c.length ∧ bAt c j = true) :
  Calls Try.prog 45 #[v, .bool true] w fun e w' => e = .returned (.bool b) ∧ w = w' := by
 have Hb := hide hb
 clear hb
 go_enter Try.func45, Try.ntmps45
 go_wp2_with (go_at_call 66; refine (wdIndexB_any v base c _ hv).mono ?_; rintro e w' ⟨⟨r, rfl, hr⟩, rfl⟩; have Hr := hide hr; clear hr)
 go_ret
 refine ⟨ret_bool ?_, rfl⟩
 have hb := Hb.out
 rcases Hr.out with ⟨h1, h2⟩ | ⟨h1, h2⟩
 ·rw [decide_eq_false (by omega)]
  cases b with
  | false => rfl
  | true => obtain ⟨j, h3, h4⟩ := hb.1 rfl; rw [h2 j h3] at h4; cases h4
 ·rw [decide_eq_true (by omega), hb.2 h2]
set_option maxRecDepth 100000 in
set_option maxHeartbeats 400000 in
theorem rising1_any (n last : Int) (lb : Nat) (w : World) (hc : w.cell? ⟨lb, 0, none⟩ = some (.int .i64 last)) (hf : w.frozen? ⟨lb, 0, none⟩ = false) :
  Calls Try.prog 51 #[.int .i64 n, .pointer (some ⟨lb, 0, none⟩)] w fun e w' => e = .returned (.bool (decide (n ≤ last))) ∧ w' = w.setCell ⟨lb, 0, none⟩ (.int .i64 n) := by
 go_enter Try.func51, Try.ntmps51
 go_wp2
 go_ret
 exact ⟨rfl, rfl⟩
set_option maxRecDepth 100000 in
set_option maxHeartbeats 1000000 in
theorem IndexR_any (v : Value) (l : List Int) (w0 w : World) (hv : IsRow w0 v l) (hb0 : Below w0.heap.size w0 w) (hc : w.cell? ⟨w0.heap.size, 0, none⟩ = some (.int .i64 (-1))) (hf : w.frozen? ⟨w0.heap.size, 0, none⟩ = false) :
  Calls Try.prog 50 #[v, .func (.func 51) #[] #[.pointer (some ⟨w0.heap.size, 0, none⟩)]] w fun e w' => (∃ r : Int, e = .returned (.int .i64 r) ∧ (r < 0 ∧ risB l = true ∨ 0 ≤ r ∧ risB l = false)) ∧ Below w0.heap.size w0 w' := by
 obtain ⟨a, cap, rfl, h1, h2, h3⟩ := hv
 go_enter Try.func50, Try.ntmps50
 go_wp2
 go_loopw [5, 8] (fun _ i wr => ∃ k : Nat, k ≤ l.length ∧ i = .int .i64 k ∧ Hid (risTo l k = true) ∧ wr.cell? ⟨w0.heap.size, 0, none⟩ = some (.int .i64 (if k = 0 then -1 else iAt l (k - 1))) ∧ wr.frozen? ⟨w0.heap.size, 0, none⟩ = false ∧ Below w0.heap.size w0 wr) (fun _ i _ => l.length - (intOf i).toNat)
 case atStart => exact ⟨0, Nat.zero_le _, rfl, hide rfl, hc, hf, hb0⟩
 case round =>
  obtain ⟨k, hk, rfl, Hall, hcr, hfr, hB⟩ := hrel
  by_cases hlt : k < l.length
  ·obtain ⟨b, off, rfl, h4, h5⟩ := h3 k hlt
   have h5' := (hB.cell (p := ⟨b, off + k, none⟩) h4).trans h5
   clear h5 h3 hc hf
   obtain ⟨la, hla⟩ : ∃ la : Int, la = (if k = 0 then -1 else iAt l (k - 1)) := ⟨_, rfl⟩
   rw [← hla] at hcr
   have Hla := hide hla
   clear hla
   by_cases hval : iAt l k ≤ la
   ·go_wp2_with (go_at_call 51; refine (rising1_any _ la w0.heap.size _ hcr hfr).mono ?_; rintro e w' ⟨rfl, rfl⟩)
    go_ret
    exact ⟨⟨_, rfl, .inr ⟨by omega, risTo_false (by rw [← Hla.out]; exact hval) _ hlt⟩⟩, hB.setCell (Nat.le_refl _) _⟩
   ·go_wp2_with (go_at_call 51; refine (rising1_any _ la w0.heap.size _ hcr hfr).mono ?_; rintro e w' ⟨rfl, rfl⟩)
    go_roundw
    case rel => exact ⟨k + 1, by omega, by go_num, hide (by rw [risTo, Hall.out, ← Hla.out]; simp; omega), by rw [if_neg (by omega), Nat.add_sub_cancel]; exact World.cell?_setCell_same' _ _ _ (by simp [hcr]), by rw [World.frozen?_setCell]; exact hfr, hB.setCell (Nat.le_refl _) _⟩
    case measure => simp [intOf]; omega
  ·clear h3 hc hf hcr
   go_wp2
   go_ret
   exact ⟨⟨_, rfl, .inl ⟨by omega, by rw [← Hall.out, show k = l.length by omega]; rfl⟩⟩, hB⟩
set_option maxRecDepth 100000 in
set_option maxHeartbeats 400000 in
theorem ContainsR_any (v : Value) (l : List Int) (w0 w : World) (hv : IsRow w0 v l) (hb0 : Below w0.heap.size w0 w) (hc : w.cell? ⟨w0.heap.size, 0, none⟩ = some (.int .i64 (-1))) (hf : w.frozen? ⟨w0.heap.size, 0, none⟩ = false) :
  Calls Try.prog 34 #[v, .func (.func 51) #[] #[.pointer (some ⟨w0.heap.size, 0, none⟩)]] w fun e w' => e = .returned (.bool (!risB l)) ∧ Below w0.heap.size w0 w' := by
 go_enter Try.func34, Try.ntmps34
 go_wp2_with (go_at_call 50; refine (IndexR_any v l w0 _ hv hb0 hc hf).mono ?_; rintro e w' ⟨⟨r, rfl, hr⟩, hb⟩; have Hr := hide hr; clear hr)
 go_ret
 refine ⟨ret_bool ?_, hb⟩
 rcases Hr.out with ⟨h1, h2⟩ | ⟨h1, h2⟩ <;> simp [h2] <;> omega
set_option maxRecDepth 100000 in
set_option maxHeartbeats 400000 in
theorem wdRising_any (v : Value) (l : List Int) (w : World) (hv : IsRow w v l) : Calls Try.prog 35 #[v] w fun e w' => e = .returned (.bool (risB l)) ∧ Below w.heap.size w w' := by
 go_enter Try.func35, Try.ntmps35
 go_wp2_with (go_at_call 34; refine (ContainsR_any v l w _ hv (by ((with_reducible repeat' first | exact .refl _ _ | refine .alloc ?_ ?_ _ | refine .setCell ?_ ?_ _ | refine .drew ?_ | refine below_drewN ?_ _) <;> first | omega | simp <;> omega)) (by simp) (by simp)).mono ?_; rintro e w' ⟨rfl, hb⟩)
 go_ret
 exact ⟨ret_bool (by simp), hb⟩
end Go.Proofs.Ytlmcoollkmhanaa
