
/- Package scene: how many answers are something. -/
import Derived.Test.YtigjljmhpkeahaaGreatScD
namespace Go.Proofs.YtigjljmhpkeahaaGreat
open Go.RowKit

def qLost (s : Sd) : Bool := s.a.ls
def qBent (s : Sd) : Bool := !s.a.ls && !dlOk s.a s.p
def qLie (s : Sd) : Bool := !s.a.ls && !hnOk s.a s.p s.t
def SdOk (s : Sd) : Prop := s.a.ls = false → (0 ≤ s.t ∧ s.t ≤ 3000000000000000) ∧ (0 ≤ s.a.ou ∧ s.a.ou ≤ 1000000) ∧ (0 ≤ s.a.lo ∧ s.a.lo ≤ 3000000000000000) ∧ (0 ≤ s.a.hi ∧ s.a.hi ≤ 3000000000000000) ∧ (0 ≤ s.p.er ∧ s.p.er ≤ 1000000)
set_option maxRecDepth 100000 in
set_option maxHeartbeats 400000 in
theorem Allowed1_any (s : Sd) (w : World) : Calls Tryz.prog 48 #[valS s] w fun e w' => e = .returned (.bool (qLost s)) ∧ Below w.heap.size w w' := by
 unfold valS
 go_enter Tryz.func48, Tryz.ntmps48
 go_wp2
 go_ret
 exact ⟨rfl, (by ((with_reducible repeat' first | exact .refl _ _ | refine .alloc ?_ ?_ _ | refine .setCell ?_ ?_ _ | refine .drew ?_ | refine below_drewN ?_ _) <;> first | omega | simp <;> omega))⟩
set_option maxRecDepth 100000 in
set_option maxHeartbeats 1000000 in
theorem Allowed2_any (s : Sd) (w : World) : Calls Tryz.prog 49 #[valS s] w fun e w' => e = .returned (.bool (qBent s)) ∧ Below w.heap.size w w' := by
 cases hl : s.a.ls with
 | true =>
  have hq : qBent s = false := by unfold qBent; rw [hl]; rfl
  rw [hq]
  unfold valS
  rw [hl]
  clear hq
  go_enter Tryz.func49, Tryz.ntmps49
  go_wp2
  go_ret
  exact ⟨rfl, (by ((with_reducible repeat' first | exact .refl _ _ | refine .alloc ?_ ?_ _ | refine .setCell ?_ ?_ _ | refine .drew ?_ | refine below_drewN ?_ _) <;> first | omega | simp <;> omega))⟩
 | false =>
  have hq : qBent s = !(dlOk s.a s.p) := by unfold qBent; rw [hl]; simp
  rw [hq]
  have hC := fun W => scDelayed_any s W
  unfold valS at *
  rw [hl] at *
  have HC := hide hC
  clear hC hq
  generalize dlOk s.a s.p = B at *
  go_enter Tryz.func49, Tryz.ntmps49
  go_wp2_with (go_at_call 50; refine (HC.out _).mono ?_; rintro e w1 ⟨rfl, b1⟩)
  go_ret
  exact ⟨rfl, (by ((with_reducible repeat' first | exact .refl _ _ | exact b1 | refine .alloc ?_ ?_ _ | refine .setCell ?_ ?_ _ | refine .drew ?_ | refine below_drewN ?_ _ | refine Below.trans ?_ (b1.mono ?_)) <;> first | omega | simp <;> omega))⟩
set_option maxRecDepth 100000 in
set_option maxHeartbeats 1000000 in
theorem Allowed3_any (s : Sd) (w : World) (hs : SdOk s) : Calls Tryz.prog 51 #[valS s] w fun e w' => e = .returned (.bool (qLie s)) ∧ Below w.heap.size w w' := by
 cases hl : s.a.ls with
 | true =>
  have hq : qLie s = false := by unfold qLie; rw [hl]; rfl
  rw [hq]
  unfold valS
  rw [hl]
  clear hq
  go_enter Tryz.func51, Tryz.ntmps51
  go_wp2
  go_ret
  exact ⟨rfl, (by ((with_reducible repeat' first | exact .refl _ _ | refine .alloc ?_ ?_ _ | refine .setCell ?_ ?_ _ | refine .drew ?_ | refine below_drewN ?_ _) <;> first | omega | simp <;> omega))⟩
 | false =>
  have hq : qLie s = !(hnOk s.a s.p s.t) := by unfold qLie; rw [hl]; simp
  rw [hq]
  obtain ⟨g1, g2, g3, g4, g5⟩ := hs hl
  have hC := fun W => scHonest_any s W g1 g2 g3 g4 g5
  clear hs g1 g2 g3 g4 g5
  unfold valS at *
  rw [hl] at *
  have HC := hide hC
  clear hC hq
  generalize hnOk s.a s.p s.t = B at *
  go_enter Tryz.func51, Tryz.ntmps51
  go_wp2_with (go_at_call 52; refine (HC.out _).mono ?_; rintro e w1 ⟨rfl, b1⟩)
  go_ret
  exact ⟨rfl, (by ((with_reducible repeat' first | exact .refl _ _ | exact b1 | refine .alloc ?_ ?_ _ | refine .setCell ?_ ?_ _ | refine .drew ?_ | refine below_drewN ?_ _ | refine Below.trans ?_ (b1.mono ?_)) <;> first | omega | simp <;> omega))⟩
theorem sdCnt_le (q : Sd → Bool) (l : List Sd) : ∀ k, sdCnt q l k ≤ k
 | 0 => Nat.le_refl _
 | k + 1 => by
  have := sdCnt_le q l k
  unfold sdCnt at *
  rw [cntTo]
  split <;> omega
set_option maxRecDepth 100000 in
set_option maxHeartbeats 1000000 in
theorem count1_any (v : Value) (l : List Sd) (w : World) (hv : SdRow w v l) (hl : l.length ≤ 1000) :
  Calls Tryz.prog 53 #[v, .func (.func 48) #[] #[]] w fun e w' => e = .returned (.int .i64 (sdCnt qLost l l.length)) ∧ Below w.heap.size w w' := by
 have Hv := hide hv
 obtain ⟨a, cap, rfl, h1, h2⟩ := hv.len
 clear hv
 go_enter Tryz.func53, Tryz.ntmps53
 go_wp2
 go_loopw [5, 10] (fun s5 s10 wr => ∃ k : Nat, k ≤ l.length ∧ s10 = .int .i64 k ∧ s5 = .int .i64 (sdCnt qLost l k) ∧ Below w.heap.size w wr) (fun _ s10 _ => l.length - (intOf s10).toNat)
 case atStart => exact ⟨0, Nat.zero_le _, rfl, rfl, Below.refl _ _⟩
 case round =>
  obtain ⟨k, hk, rfl, rfl, hB⟩ := hrel
  by_cases hlt : k < l.length
  ·obtain ⟨b, off, cap', e, -, -, h4, h5⟩ := Hv.out.at0 (by omega)
   cases e
   have hsd := (h5 k hlt).of (bk hB b h4).1
   have hnx : sdCnt qLost l (k + 1) = if qLost (sdAt l k) = true then sdCnt qLost l k + 1 else sdCnt qLost l k := (by unfold sdCnt; rw [cntTo]; split <;> rfl)
   have hle := sdCnt_le qLost l k
   have I1 : (0 : Int) ≤ (k : Int) := by omega
   have I2 : (k : Int) < (l.length : Int) := by omega
   skip
   generalize sdAt l k = s at *
   generalize sdCnt qLost l k = c at *
   have hU := fun W => Allowed1_any s W
   unfold valS at hU
   have HU := hide hU
   obtain ⟨⟨a0, a1, a2, a3, a4, a5⟩, ⟨b0, b1, b2, b3, b4, b5, b6, b7⟩, c0⟩ := hsd
   have hz := hB.size
   clear h5 hU
   cases hval : qLost s with
   | true =>
    rw [hval, if_pos rfl] at hnx
    have Hnx := hide hnx
    clear hnx
    go_wp2_with (go_at_call 48; refine (HU.out _).mono ?_; rintro e w' ⟨rfl, hb⟩; rw [hval])
    go_roundw
    case rel => exact ⟨k + 1, by omega, by go_num, by rw [Hnx.out]; go_num, (by ((with_reducible repeat' first | exact .refl _ _ | exact hB | exact hb | refine .alloc ?_ ?_ _ | refine .setCell ?_ ?_ _ | refine .drew ?_ | refine below_drewN ?_ _ | refine Below.trans ?_ (hB.mono ?_) | refine Below.trans ?_ (hb.mono ?_)) <;> first | omega | simp <;> omega))⟩
    case measure => simp [intOf]; omega
   | false =>
    rw [hval, if_neg (by simp)] at hnx
    have Hnx := hide hnx
    clear hnx
    go_wp2_with (go_at_call 48; refine (HU.out _).mono ?_; rintro e w' ⟨rfl, hb⟩; rw [hval])
    go_roundw
    case rel => exact ⟨k + 1, by omega, by go_num, by rw [Hnx.out], (by ((with_reducible repeat' first | exact .refl _ _ | exact hB | exact hb | refine .alloc ?_ ?_ _ | refine .setCell ?_ ?_ _ | refine .drew ?_ | refine below_drewN ?_ _ | refine Below.trans ?_ (hB.mono ?_) | refine Below.trans ?_ (hb.mono ?_)) <;> first | omega | simp <;> omega))⟩
    case measure => simp [intOf]; omega
  ·obtain rfl : k = l.length := by omega
   go_wp2_with fail
   go_ret
   exact ⟨rfl, hB⟩
set_option maxRecDepth 100000 in
set_option maxHeartbeats 1000000 in
theorem count2_any (v : Value) (l : List Sd) (w : World) (hv : SdRow w v l) (hl : l.length ≤ 1000) :
  Calls Tryz.prog 53 #[v, .func (.func 49) #[] #[]] w fun e w' => e = .returned (.int .i64 (sdCnt qBent l l.length)) ∧ Below w.heap.size w w' := by
 have Hv := hide hv
 obtain ⟨a, cap, rfl, h1, h2⟩ := hv.len
 clear hv
 go_enter Tryz.func53, Tryz.ntmps53
 go_wp2
 go_loopw [5, 10] (fun s5 s10 wr => ∃ k : Nat, k ≤ l.length ∧ s10 = .int .i64 k ∧ s5 = .int .i64 (sdCnt qBent l k) ∧ Below w.heap.size w wr) (fun _ s10 _ => l.length - (intOf s10).toNat)
 case atStart => exact ⟨0, Nat.zero_le _, rfl, rfl, Below.refl _ _⟩
 case round =>
  obtain ⟨k, hk, rfl, rfl, hB⟩ := hrel
  by_cases hlt : k < l.length
  ·obtain ⟨b, off, cap', e, -, -, h4, h5⟩ := Hv.out.at0 (by omega)
   cases e
   have hsd := (h5 k hlt).of (bk hB b h4).1
   have hnx : sdCnt qBent l (k + 1) = if qBent (sdAt l k) = true then sdCnt qBent l k + 1 else sdCnt qBent l k := (by unfold sdCnt; rw [cntTo]; split <;> rfl)
   have hle := sdCnt_le qBent l k
   have I1 : (0 : Int) ≤ (k : Int) := by omega
   have I2 : (k : Int) < (l.length : Int) := by omega
   skip
   generalize sdAt l k = s at *
   generalize sdCnt qBent l k = c at *
   have hU := fun W => Allowed2_any s W
   unfold valS at hU
   have HU := hide hU
   obtain ⟨⟨a0, a1, a2, a3, a4, a5⟩, ⟨b0, b1, b2, b3, b4, b5, b6, b7⟩, c0⟩ := hsd
   have hz := hB.size
   clear h5 hU
   cases hval : qBent s with
   | true =>
    rw [hval, if_pos rfl] at hnx
    have Hnx := hide hnx
    clear hnx
    go_wp2_with (go_at_call 49; refine (HU.out _).mono ?_; rintro e w' ⟨rfl, hb⟩; rw [hval])
    go_roundw
    case rel => exact ⟨k + 1, by omega, by go_num, by rw [Hnx.out]; go_num, (by ((with_reducible repeat' first | exact .refl _ _ | exact hB | exact hb | refine .alloc ?_ ?_ _ | refine .setCell ?_ ?_ _ | refine .drew ?_ | refine below_drewN ?_ _ | refine Below.trans ?_ (hB.mono ?_) | refine Below.trans ?_ (hb.mono ?_)) <;> first | omega | simp <;> omega))⟩
    case measure => simp [intOf]; omega
   | false =>
    rw [hval, if_neg (by simp)] at hnx
    have Hnx := hide hnx
    clear hnx
    go_wp2_with (go_at_call 49; refine (HU.out _).mono ?_; rintro e w' ⟨rfl, hb⟩; rw [hval])
    go_roundw
    case rel => exact ⟨k + 1, by omega, by go_num, by rw [Hnx.out], (by ((with_reducible repeat' first | exact .refl _ _ | exact hB | exact hb | refine .alloc ?_ ?_ _ | refine .setCell ?_ ?_ _ | refine .drew ?_ | refine below_drewN ?_ _ | refine Below.trans ?_ (hB.mono ?_) | refine Below.trans ?_ (hb.mono ?_)) <;> first | omega | simp <;> omega))⟩
    case measure => simp [intOf]; omega
  ·obtain rfl : k = l.length := by omega
   go_wp2_with fail
   go_ret
   exact ⟨rfl, hB⟩
set_option maxRecDepth 100000 in
set_option maxHeartbeats 1000000 in
theorem count3_any (v : Value) (l : List Sd) (w : World) (hv : SdRow w v l) (hl : l.length ≤ 1000) (ok : ∀ j, j < l.length → SdOk (sdAt l j)) :
  Calls Tryz.prog 53 #[v, .func (.func 51) #[] #[]] w fun e w' => e = .returned (.int .i64 (sdCnt qLie l l.length)) ∧ Below w.heap.size w w' := by
 have Hv := hide hv
 obtain ⟨a, cap, rfl, h1, h2⟩ := hv.len
 clear hv
 have Ok := hide ok
 clear ok
 go_enter Tryz.func53, Tryz.ntmps53
 go_wp2
 go_loopw [5, 10] (fun s5 s10 wr => ∃ k : Nat, k ≤ l.length ∧ s10 = .int .i64 k ∧ s5 = .int .i64 (sdCnt qLie l k) ∧ Below w.heap.size w wr) (fun _ s10 _ => l.length - (intOf s10).toNat)
 case atStart => exact ⟨0, Nat.zero_le _, rfl, rfl, Below.refl _ _⟩
 case round =>
  obtain ⟨k, hk, rfl, rfl, hB⟩ := hrel
  by_cases hlt : k < l.length
  ·obtain ⟨b, off, cap', e, -, -, h4, h5⟩ := Hv.out.at0 (by omega)
   cases e
   have hsd := (h5 k hlt).of (bk hB b h4).1
   have hnx : sdCnt qLie l (k + 1) = if qLie (sdAt l k) = true then sdCnt qLie l k + 1 else sdCnt qLie l k := (by unfold sdCnt; rw [cntTo]; split <;> rfl)
   have hle := sdCnt_le qLie l k
   have I1 : (0 : Int) ≤ (k : Int) := by omega
   have I2 : (k : Int) < (l.length : Int) := by omega
   have hok := Ok.out k hlt
   generalize sdAt l k = s at *
   generalize sdCnt qLie l k = c at *
   have hU := fun W => Allowed3_any s W hok
   clear hok
   unfold valS at hU
   have HU := hide hU
   obtain ⟨⟨a0, a1, a2, a3, a4, a5⟩, ⟨b0, b1, b2, b3, b4, b5, b6, b7⟩, c0⟩ := hsd
   have hz := hB.size
   clear h5 hU
   cases hval : qLie s with
   | true =>
    rw [hval, if_pos rfl] at hnx
    have Hnx := hide hnx
    clear hnx
    go_wp2_with (go_at_call 51; refine (HU.out _).mono ?_; rintro e w' ⟨rfl, hb⟩; rw [hval])
    go_roundw
    case rel => exact ⟨k + 1, by omega, by go_num, by rw [Hnx.out]; go_num, (by ((with_reducible repeat' first | exact .refl _ _ | exact hB | exact hb | refine .alloc ?_ ?_ _ | refine .setCell ?_ ?_ _ | refine .drew ?_ | refine below_drewN ?_ _ | refine Below.trans ?_ (hB.mono ?_) | refine Below.trans ?_ (hb.mono ?_)) <;> first | omega | simp <;> omega))⟩
    case measure => simp [intOf]; omega
   | false =>
    rw [hval, if_neg (by simp)] at hnx
    have Hnx := hide hnx
    clear hnx
    go_wp2_with (go_at_call 51; refine (HU.out _).mono ?_; rintro e w' ⟨rfl, hb⟩; rw [hval])
    go_roundw
    case rel => exact ⟨k + 1, by omega, by go_num, by rw [Hnx.out], (by ((with_reducible repeat' first | exact .refl _ _ | exact hB | exact hb | refine .alloc ?_ ?_ _ | refine .setCell ?_ ?_ _ | refine .drew ?_ | refine below_drewN ?_ _ | refine Below.trans ?_ (hB.mono ?_) | refine Below.trans ?_ (hb.mono ?_)) <;> first | omega | simp <;> omega))⟩
    case measure => simp [intOf]; omega
  ·obtain rfl : k = l.length := by omega
   go_wp2_with fail
   go_ret
   exact ⟨rfl, hB⟩
end Go.Proofs.YtigjljmhpkeahaaGreat
