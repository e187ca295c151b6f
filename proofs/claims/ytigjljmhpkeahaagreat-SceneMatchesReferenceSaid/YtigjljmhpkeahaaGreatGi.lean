
/- Parts PlP PlA PlB PlC PlD PlE of the proof, joined. -/
import Derived.Test.YtigjljmhpkeahaaGreatGc
import Derived.Lib.Small
import Derived.Test.YtigjljmhpkeahaaGreatGd
import Derived.Test.YtigjljmhpkeahaaGreatGb
import Derived.Test.YtigjljmhpkeahaaGreatGe
import Derived.Shelf.SlSortCmp.QuietGrown
import Derived.Deep.DeepCutAuto
/- Plain mathematics of package plan: costs, offers, what is better, the best one. -/
namespace Go.Proofs.YtigjljmhpkeahaaGreat
open Go.RowKit
open Lib (compareInt)

def cmpI : List Int → List Int → Int
 | [], [] => 0
 | [], _ :: _ => -1
 | _ :: _, [] => 1
 | x :: a, y :: b => if x < y then -1 else if y < x then 1 else cmpI a b
def costTo (ps : List Pr) (use : List Int) : Nat → Int
 | 0 => 0
 | k + 1 => costTo ps use k + (pAt ps (iAt use k).toNat).co
def costL (ps : List Pr) (use : List Int) : Int := costTo ps use use.length
structure Of where
 use : List Int
 ev : Int
 wd : Int
def of0 : Of := ⟨[], 0, 0⟩
def cmpS (ps : List Pr) (ua : List Int) (ea : Int) (ub : List Int) (eb : Int) : Int := compareInt (costL ps ua * eb) (costL ps ub * ea)
def cmpC (ps : List Pr) (a b : Of) : Int := cmpS ps a.use a.ev b.use b.ev
def cmpW (a b : Of) : Int := compareInt a.wd b.wd
def c1 (nr : Bool) (ps : List Pr) (a b : Of) : Int := if nr then cmpW a b else cmpC ps a b
def c2 (nr : Bool) (ps : List Pr) (a b : Of) : Int := if nr then cmpC ps a b else cmpW a b
def c3 (a b : Of) : Int := compareInt a.use.length b.use.length
def c4 (a b : Of) : Int := cmpI a.use b.use
def c5 (a b : Of) : Int := compareInt b.ev a.ev
def btr (nr : Bool) (ps : List Pr) (a b : Of) : Bool :=
 if c1 nr ps a b ≠ 0 then decide (c1 nr ps a b < 0) else if c2 nr ps a b ≠ 0 then decide (c2 nr ps a b < 0) else if c3 a b ≠ 0 then decide (c3 a b < 0) else if c4 a b ≠ 0 then decide (c4 a b < 0) else if c5 a b ≠ 0 then decide (c5 a b < 0) else false
def mkL (m : Nat) : Nat → List Int
 | 0 => []
 | k + 1 => if m / 2 ^ k % 2 = 1 then mkL m k ++ [(k : Int)] else mkL m k
def perTo (s : Si) (use pl : List Int) : Nat → List Of
 | 0 => []
 | k + 1 => if rgB s use (iAt pl k) = true then perTo s use pl k ++ [⟨use, iAt pl k, wdt s use (iAt pl k)⟩] else perTo s use pl k
def ofTo (s : Si) (pl : List Int) : Nat → List Of
 | 0 => []
 | m + 1 => ofTo s pl m ++ perTo s (mkL m s.ps.length) pl pl.length
def ofL (s : Si) (pl : List Int) : List Of := ofTo s pl (2 ^ s.ps.length)
def bstS (nr : Bool) (ps : List Pr) (most : Int) (acc : Option Of) (o : Of) : Option Of :=
 match acc with
 | none => if o.wd ≤ most then some o else none
 | some b => if o.wd ≤ most ∧ btr nr ps o b = true then some o else some b
def bstL (nr : Bool) (ps : List Pr) (most : Int) (l : List Of) : Option Of := l.foldl (bstS nr ps most) none
theorem bstL_snoc (nr : Bool) (ps : List Pr) (most : Int) (l : List Of) (o : Of) : bstL nr ps most (l ++ [o]) = bstS nr ps most (bstL nr ps most l) o := by simp [bstL]
def bstO (nr : Bool) (s : Si) (pl : List Int) (most : Int) : Option Of := bstL nr s.ps most (ofL s pl)
def perB (tm : Int) (pl : List Int) : Nat → Bool
 | 0 => true
 | k + 1 => perB tm pl k && decide ((if k = 0 then tm else iAt pl (k - 1)) < iAt pl k ∧ 1 ≤ iAt pl k ∧ iAt pl k ≤ 1000000000000)
def prdB (tm : Int) (pl : List Int) : Bool := perB tm pl pl.length && decide (1 ≤ pl.length ∧ pl.length ≤ 10)
def ckE (s : Si) (pl : List Int) : Int := if siB s = true ∧ prdB s.tm pl = true then (if s.ps.length ≤ 10 then 0 else 2) else 1
def nwO (s : Si) (pl : List Int) : Option Of := if ckE s pl = 0 then bstO true s pl 9223372036854775807 else none
def nwE (s : Si) (pl : List Int) : Int := if ckE s pl = 0 then (if (nwO s pl).isSome then 0 else 20) else ckE s pl

theorem perB_iff (tm : Int) (pl : List Int) : ∀ k, (perB tm pl k = true ↔ ∀ j, j < k → (if j = 0 then tm else iAt pl (j - 1)) < iAt pl j ∧ 1 ≤ iAt pl j ∧ iAt pl j ≤ 1000000000000)
 | 0 => by simp [perB]
 | k + 1 => by
  rw [perB, Bool.and_eq_true, perB_iff tm pl k, decide_eq_true_eq]
  constructor
  ·rintro ⟨h1, h2⟩ j hj
   rcases Nat.lt_or_ge j k with h | h
   ·exact h1 j h
   ·obtain rfl : j = k := by omega
    exact h2
  ·intro h
   exact ⟨fun j hj => h j (by omega), h k (by omega)⟩
theorem perB_false {tm : Int} {pl : List Int} {k : Nat} (hv : ¬ ((if k = 0 then tm else iAt pl (k - 1)) < iAt pl k ∧ 1 ≤ iAt pl k ∧ iAt pl k ≤ 1000000000000)) (n : Nat) (h : k < n) : perB tm pl n = false := by
 cases hp : perB tm pl n with
 | false => rfl
 | true => exact absurd ((perB_iff tm pl n).1 hp k h) hv
theorem mkL_len (m : Nat) : ∀ k, (mkL m k).length ≤ k
 | 0 => by simp [mkL]
 | k + 1 => by
  have := mkL_len m k
  rw [mkL]
  split
  ·simp only [List.length_append, List.length_cons, List.length_nil]; omega
  ·omega
theorem costTo_bd {r tm : Int} {ps : List Pr} {use : List Int} (h : ∀ j, j < use.length → 0 ≤ (pAt ps (iAt use j).toNat).co ∧ (pAt ps (iAt use j).toNat).co ≤ 1000000) : ∀ k, k ≤ use.length → 0 ≤ costTo ps use k ∧ costTo ps use k ≤ k * 1000000
 | 0, _ => by simp [costTo]
 | k + 1, hk => by
  have ih := costTo_bd (r := r) (tm := tm) h k (by omega)
  have := h k (by omega)
  rw [costTo]
  omega
theorem perTo_mem (s : Si) (use pl : List Int) : ∀ k o, (o ∈ perTo s use pl k ↔ ∃ j, j < k ∧ rgB s use (iAt pl j) = true ∧ o = ⟨use, iAt pl j, wdt s use (iAt pl j)⟩)
 | 0, o => by simp [perTo]
 | k + 1, o => by
  have ih := perTo_mem s use pl k o
  rw [perTo]
  split
  ·rename_i h
   simp only [List.mem_append, List.mem_singleton, ih]
   constructor
   ·rintro (⟨i, h1, h2⟩ | h2)
    ·exact ⟨i, by omega, h2⟩
    ·exact ⟨k, by omega, h, h2⟩
   ·rintro ⟨i, h1, h2, h3⟩
    rcases Nat.lt_or_ge i k with h4 | h4
    ·exact .inl ⟨i, h4, h2, h3⟩
    ·obtain rfl : i = k := by omega
     exact .inr h3
  ·rename_i h
   rw [ih]
   constructor
   ·rintro ⟨i, h1, h2⟩; exact ⟨i, by omega, h2⟩
   ·rintro ⟨i, h1, h2, h3⟩
    refine ⟨i, ?_, h2, h3⟩
    rcases Nat.lt_or_ge i k with h4 | h4
    ·exact h4
    ·obtain rfl : i = k := by omega
     exact absurd h2 h
theorem ofTo_mem (s : Si) (pl : List Int) : ∀ n o, (o ∈ ofTo s pl n ↔ ∃ m j, m < n ∧ j < pl.length ∧ rgB s (mkL m s.ps.length) (iAt pl j) = true ∧ o = ⟨mkL m s.ps.length, iAt pl j, wdt s (mkL m s.ps.length) (iAt pl j)⟩)
 | 0, o => by simp [ofTo]
 | n + 1, o => by
  have ih := ofTo_mem s pl n o
  rw [ofTo, List.mem_append, ih, perTo_mem]
  constructor
  ·rintro (⟨m, j, h1, h2⟩ | ⟨j, h2⟩)
   ·exact ⟨m, j, by omega, h2⟩
   ·exact ⟨n, j, by omega, h2⟩
  ·rintro ⟨m, j, h1, h2⟩
   rcases Nat.lt_or_ge m n with h4 | h4
   ·exact .inl ⟨m, j, h4, h2⟩
   ·obtain rfl : m = n := by omega
    exact .inr ⟨j, h2⟩
end Go.Proofs.YtigjljmhpkeahaaGreat
/- Package plan: periods, costs. -/
namespace Go.Proofs.YtigjljmhpkeahaaGreat
open Go.RowKit

set_option maxRecDepth 100000 in
set_option maxHeartbeats 1000000 in
theorem isPeriods_any (r f lo tm : Int) (pv v : Value) (pl : List Int) (w : World) (hv : IsRow w v pl) :
  Calls Tryz.prog 118 #[.agg #[.int .i64 r, .int .i64 f, .int .i64 lo, .int .i64 tm, pv], v] w fun e w' => e = .returned (.bool (prdB tm pl)) ∧ Below w.heap.size w w' := by
 obtain ⟨a, cap, rfl, q1, q2, q3⟩ := hv
 have Q3 := hide q3
 clear q3
 obtain ⟨R, hR⟩ : ∃ R, R = prdB tm pl := ⟨_, rfl⟩
 rw [← hR]
 have HR := hide hR
 clear hR
 go_enter Tryz.func118, Tryz.ntmps118
 go_wp2_with fail
 go_loop [5, 12] (fun s5 s12 => ∃ k : Nat, k ≤ pl.length ∧ s12 = .int .i64 k ∧ s5 = .int .i64 (if k = 0 then tm else iAt pl (k - 1)) ∧ Hid (perB tm pl k = true)) (fun _ s12 => pl.length - (intOf s12).toNat)
 case atStart => exact ⟨0, Nat.zero_le _, rfl, rfl, hide rfl⟩
 case round =>
  obtain ⟨k, hk, rfl, rfl, Hp⟩ := hrel
  obtain ⟨la, hla⟩ : ∃ la, la = (if k = 0 then tm else iAt pl (k - 1)) := ⟨_, rfl⟩
  rw [← hla]
  by_cases hlt : k < pl.length
  ·obtain ⟨b, off, rfl, h4, h5⟩ := Q3.out k hlt
   have h6 : (w.alloc (.cells #[.int .i64 r, .int .i64 f, .int .i64 lo, .int .i64 tm, pv] 24)).cell? ⟨b, off + k, none⟩ = some (.int .i64 (iAt pl k)) := (World.cell?_alloc_old _ _ _ (by simpa using Nat.ne_of_lt h4)).trans h5
   have hnx : perB tm pl (k + 1) = decide (la < iAt pl k ∧ 1 ≤ iAt pl k ∧ iAt pl k ≤ 1000000000000) := by rw [perB, Hp.out, ← hla]; rfl
   have hfa : ¬ (la < iAt pl k ∧ 1 ≤ iAt pl k ∧ iAt pl k ≤ 1000000000000) → R = false := fun h => by
    rw [HR.out]; unfold prdB; rw [perB_false (k := k) (by rw [← hla]; exact h) _ hlt]; rfl
   have Hnx := hide hnx
   have Hfa := hide hfa
   have hla' : (if k + 1 = 0 then tm else iAt pl (k + 1 - 1)) = iAt pl k := by simp
   have Hla := hide hla'
   have hI1 : (0 : Int) ≤ (k : Int) := by omega
   have hI2 : (k : Int) < (pl.length : Int) := by omega
   clear hnx hfa hla hla' h5
   generalize iAt pl k = y at *
   by_cases k1 : y ≤ la
   ·go_wp2_with fail
    go_ret
    exact ⟨ret_bool (Hfa.out (by omega)).symm, (by ((with_reducible repeat' first | exact .refl _ _ | refine .alloc ?_ ?_ _ | refine .setCell ?_ ?_ _ | refine .drew ?_ | refine below_drewN ?_ _) <;> first | omega | simp <;> omega))⟩
   ·by_cases k2 : y < 1
    ·go_wp2_with fail
     go_ret
     exact ⟨ret_bool (Hfa.out (by omega)).symm, (by ((with_reducible repeat' first | exact .refl _ _ | refine .alloc ?_ ?_ _ | refine .setCell ?_ ?_ _ | refine .drew ?_ | refine below_drewN ?_ _) <;> first | omega | simp <;> omega))⟩
    ·by_cases k3 : 1000000000000 < y
     ·go_wp2_with fail
      go_ret
      exact ⟨ret_bool (Hfa.out (by omega)).symm, (by ((with_reducible repeat' first | exact .refl _ _ | refine .alloc ?_ ?_ _ | refine .setCell ?_ ?_ _ | refine .drew ?_ | refine below_drewN ?_ _) <;> first | omega | simp <;> omega))⟩
     ·go_wp2_with fail
      go_round
      case rel => exact ⟨k + 1, by omega, by go_num, by rw [Hla.out], hide (by rw [Hnx.out]; exact decide_eq_true (by omega))⟩
      case measure => simp [intOf]; omega
  ·obtain rfl : k = pl.length := by omega
   have hR : R = decide (1 ≤ pl.length ∧ pl.length ≤ 10) := by rw [HR.out]; unfold prdB; rw [Hp.out, Bool.true_and]
   have HR2 := hide hR
   by_cases k1 : 1 ≤ pl.length
   ·by_cases k2 : pl.length ≤ 10
    ·have d1 : decide ((1 : Int) ≤ (pl.length : Int)) = true := decide_eq_true (by omega)
     have d2 : decide ((pl.length : Int) ≤ 10) = true := decide_eq_true (by omega)
     clear hR
     go_wp2_with fail
     all_goals go_ret
     all_goals first | (exfalso; omega) | exact ⟨ret_bool (by rw [HR2.out]; first | exact (decide_eq_true ⟨k1, k2⟩).symm | exact decide_eq_true ⟨k1, k2⟩ | (simp; omega)), (by ((with_reducible repeat' first | exact .refl _ _ | refine .alloc ?_ ?_ _ | refine .setCell ?_ ?_ _ | refine .drew ?_ | refine below_drewN ?_ _) <;> first | omega | simp <;> omega))⟩
    ·have d1 : decide ((1 : Int) ≤ (pl.length : Int)) = true := decide_eq_true (by omega)
     have d2 : decide ((pl.length : Int) ≤ 10) = false := decide_eq_false (by omega)
     clear hR
     go_wp2_with fail
     all_goals go_ret
     all_goals first | (exfalso; omega) | exact ⟨ret_bool (by rw [HR2.out]; first | exact (decide_eq_false (by omega)).symm | exact decide_eq_false (by omega) | (simp; omega)), (by ((with_reducible repeat' first | exact .refl _ _ | refine .alloc ?_ ?_ _ | refine .setCell ?_ ?_ _ | refine .drew ?_ | refine below_drewN ?_ _) <;> first | omega | simp <;> omega))⟩
   ·have d1 : decide ((1 : Int) ≤ (pl.length : Int)) = false := decide_eq_false (by omega)
    clear hR
    go_wp2_with fail
    all_goals go_ret
    all_goals first | (exfalso; omega) | exact ⟨ret_bool (by rw [HR2.out]; first | exact (decide_eq_false (by omega)).symm | exact decide_eq_false (by omega) | (simp; omega)), (by ((with_reducible repeat' first | exact .refl _ _ | refine .alloc ?_ ?_ _ | refine .setCell ?_ ?_ _ | refine .drew ?_ | refine below_drewN ?_ _) <;> first | omega | simp <;> omega))⟩
set_option maxRecDepth 100000 in
set_option maxHeartbeats 1000000 in
theorem cost_any (r f lo tm : Int) (pv : Value) (ps : List Pr) (uv : Value) (use : List Int) (ev : Int) (w : World) (hp : PrRow w pv ps) (hu : IsRow w uv use) (hun : use.length ≤ 1000) (hin : ∀ j, j < use.length → (0 ≤ iAt use j ∧ iAt use j < ps.length) ∧ 0 ≤ (pAt ps (iAt use j).toNat).co ∧ (pAt ps (iAt use j).toNat).co ≤ 1000000) :
  Calls Tryz.prog 167 #[.agg #[.int .i64 r, .int .i64 f, .int .i64 lo, .int .i64 tm, pv], .agg #[uv, .int .i64 ev]] w fun e w' => e = .returned (.int .u64 (costL ps use)) ∧ w' = (w.alloc (.cells #[.int .i64 r, .int .i64 f, .int .i64 lo, .int .i64 tm, pv] 24)).alloc (.cells #[uv, .int .i64 ev] 27) := by
 obtain ⟨pa, pc, rfl, q1, q2, q3⟩ := hp
 obtain ⟨ua, uc, rfl, u1, u2, u3⟩ := hu
 have Q3 := hide q3
 have U3 := hide u3
 have Hin := hide hin
 have hbd := costTo_bd (r := 0) (tm := 0) (fun j hj => (hin j hj).2)
 have Hbd := hide hbd
 clear q3 u3 hin hbd
 go_enter Tryz.func167, Tryz.ntmps167
 go_wp2_with fail
 go_loop [5, 11] (fun s5 s11 => ∃ k : Nat, k ≤ use.length ∧ s11 = .int .i64 k ∧ s5 = .int .u64 (costTo ps use k)) (fun _ s11 => use.length - (intOf s11).toNat)
 case atStart => exact ⟨0, Nat.zero_le _, rfl, rfl⟩
 case round =>
  obtain ⟨k, hk, rfl, rfl⟩ := hrel
  by_cases hlt : k < use.length
  ·obtain ⟨b, off, rfl, h4, h5⟩ := U3.out k hlt
   obtain ⟨⟨i1, i2⟩, i3, i4⟩ := Hin.out k hlt
   have hb0 := Hbd.out k hk
   have hst : costTo ps use (k + 1) = costTo ps use k + (pAt ps (iAt use k).toNat).co := rfl
   obtain ⟨q, hq⟩ : ∃ q : Nat, iAt use k = q := ⟨(iAt use k).toNat, by omega⟩
   rw [hq] at h5 i2
   rw [hq, Int.toNat_natCast] at hst
   rw [hq, Int.toNat_natCast] at i3 i4
   obtain ⟨b2, off2, rfl, g4, g5⟩ := Q3.out q (by omega)
   have g6 : w.cell? ⟨b2, off2 + q * 8 + 2, none⟩ = some (.int .i64 (pAt ps q).co) := g5.2.2.1
   have hst2 := hide hst
   have I1 : (0 : Int) ≤ (k : Int) := by omega
   have I2 : (k : Int) < (use.length : Int) := by omega
   have I3 : (0 : Int) ≤ (q : Int) := by omega
   clear hst i1 hq g5
   generalize (pAt ps q).co = y at *
   generalize costTo ps use k = z at *
   go_wp2_with fail
   go_round
   case rel => exact ⟨k + 1, by omega, by go_num, by rw [hst2.out]⟩
   case measure => simp [intOf]; omega
  ·obtain rfl : k = use.length := by omega
   go_wp2_with fail
   go_ret
   exact ⟨rfl, rfl⟩
end Go.Proofs.YtigjljmhpkeahaaGreat
/- Package plan: the comparison of costs, Cheaper. -/
namespace Go.Proofs.YtigjljmhpkeahaaGreat
open Go.RowKit

theorem below_grow {B : Nat} {a w : World} (h : Below B a w) (hB : B ≤ w.heap.size) (n : Nat) (os : Array Obj) : Below B a (Sort.grow (w.drewN n) os) :=
 (below_drewN h n).trans ⟨rfl, rfl, rfl, by rw [Sort.size_grow]; omega, fun k hk => Sort.heap_grow_old (w.drewN n) os (Nat.lt_of_lt_of_le hk hB)⟩
theorem grow_cell {W : World} {a : Addr} {v : Value} (h : W.cell? a = some v) (hb : a.block < W.heap.size) (p : GrownBy) : (Sort.grow (W.drewN p.n) p.os).cell? a = some v := (Sort.cell?_grow _ _ _ (by simpa using hb)).trans (by rw [World.cell?_drewN]; exact h)
theorem alloc2_grow (w : World) (a b : Obj) : ∃ q os', (w.alloc a).alloc b = Sort.grow (w.drewN q) os' := ⟨0, #[a] ++ #[b], by rw [World.drewN_zero, Sort.alloc_eq_grow, Sort.alloc_eq_grow, Sort.grow_grow]⟩
set_option maxRecDepth 100000 in
set_option maxHeartbeats 400000 in
theorem isNaNU_any (x : Int) (w : World) : Calls Tryz.prog 193 #[.int .u64 x] w fun e w' => e = .returned (.bool false) ∧ w' = w := by
 go_enter Tryz.func193, Tryz.ntmps193
 go_wp2
 all_goals go_ret
 all_goals exact ⟨ret_bool (by simp), rfl⟩
set_option maxRecDepth 100000 in
set_option maxHeartbeats 400000 in
theorem CompareU_any (x y : Int) (w : World) : Calls Tryz.prog 166 #[.int .u64 x, .int .u64 y] w fun e w' => e = .returned (.int .i64 (Lib.compareInt x y)) ∧ w' = w := by
 go_enter Tryz.func166, Tryz.ntmps166
 go_wp2_with (go_at_call 193; refine (isNaNU_any _ _).mono ?_; rintro e w' ⟨rfl, rfl⟩)
 all_goals go_ret
 all_goals exact ⟨ret_int (by unfold Lib.compareInt; split <;> first | rfl | omega | (split <;> first | rfl | omega)), rfl⟩
def CsOk (ps : List Pr) (use : List Int) (ev : Int) : Prop := use.length ≤ 16 ∧ (∀ j, j < use.length → (0 ≤ iAt use j ∧ iAt use j < ps.length) ∧ 0 ≤ (pAt ps (iAt use j).toNat).co ∧ (pAt ps (iAt use j).toNat).co ≤ 1000000) ∧ 0 ≤ ev ∧ ev ≤ 1000000000000
theorem CsOk.bd {ps : List Pr} {use : List Int} {ev : Int} (h : CsOk ps use ev) : 0 ≤ costL ps use ∧ costL ps use ≤ 16000000 := by
 have := costTo_bd (r := 0) (tm := 0) (fun j hj => (h.2.1 j hj).2) use.length (Nat.le_refl _)
 have := h.1
 unfold costL; omega
theorem CsOk.of {r f lo tm : Int} {ps : List Pr} {use : List Int} {ev : Int} (h : rgB ⟨r, f, lo, tm, ps⟩ use ev = true) : CsOk ps use ev := by
 have hrg := (rgB_iff _ _ _).1 h
 obtain ⟨h6, h7, -⟩ := (siB_iff _).1 hrg.1
 have hsi := (siN_iff _).1 h6
 have h8 := hrg.2.1
 have hul := use_le hrg.2.2.2.1 hrg.2.2.1
 simp only at hsi h7 h8 hul
 refine ⟨by omega, fun j hj => ?_, by omega⟩
 have h9 := hrg.2.2.1 j hj
 simp only at h9
 have := (prB_iff _ _ _).1 (h7 (iAt use j).toNat (by omega))
 exact ⟨h9, this.2.2.2.1⟩
theorem mul_bd {c e : Int} (h : 0 ≤ c ∧ c ≤ 16000000) (g : 0 ≤ e ∧ e ≤ 1000000000000) : 0 ≤ c * e ∧ c * e ≤ 16000000000000000000 :=
 ⟨Int.mul_nonneg h.1 g.1, by
  have h1 : c * e ≤ 16000000 * e := Int.mul_le_mul_of_nonneg_right h.2 g.1
  omega⟩
set_option maxRecDepth 100000 in
set_option maxHeartbeats 1000000 in
theorem compare_any (r f lo tm : Int) (pv : Value) (ps : List Pr) (ua : Value) (la : List Int) (ea : Int) (ub : Value) (lb : List Int) (eb : Int) (w : World) (hp : PrRow w pv ps) (ha : IsRow w ua la) (hb : IsRow w ub lb) (ca : CsOk ps la ea) (cb : CsOk ps lb eb) :
  Calls Tryz.prog 122 #[.agg #[.int .i64 r, .int .i64 f, .int .i64 lo, .int .i64 tm, pv], .agg #[ua, .int .i64 ea], .agg #[ub, .int .i64 eb]] w fun e w' => e = .returned (.int .i64 (cmpS ps la ea lb eb)) ∧ Below w.heap.size w w' := by
 have hR : ∀ W : World, Below w.heap.size w W → PrRow W pv ps ∧ IsRow W ua la ∧ IsRow W ub lb := fun W hW => ⟨hp.below (Nat.le_refl _) hW, ha.below (Nat.le_refl _) hW, hb.below (Nat.le_refl _) hW⟩
 have HR := hide hR
 have hca := fun W ev (h : PrRow W pv ps) (g : IsRow W ua la) => cost_any r f lo tm pv ps ua la ev W h g (by have := ca.1; omega) ca.2.1
 have hcb := fun W ev (h : PrRow W pv ps) (g : IsRow W ub lb) => cost_any r f lo tm pv ps ub lb ev W h g (by have := cb.1; omega) cb.2.1
 have m1 := mul_bd ca.bd ⟨cb.2.2.1, cb.2.2.2⟩
 have m2 := mul_bd cb.bd ⟨ca.2.2.1, ca.2.2.2⟩
 have b1 := ca.bd
 have b2 := cb.bd
 obtain ⟨-, -, e1, e2⟩ := ca
 obtain ⟨-, -, e3, e4⟩ := cb
 have hres : Lib.compareInt (costL ps la * eb) (costL ps lb * ea) = cmpS ps la ea lb eb := rfl
 have Hres := hide hres
 have Hca := hide hca
 have Hcb := hide hcb
 clear hres hca hcb hR hp ha hb
 generalize cmpS ps la ea lb eb = R at *
 generalize costL ps la = x at *
 generalize costL ps lb = y at *
 have w1 : IntKind.u64.wrap (x * eb) = x * eb := by rw [IntKind.wrap_u64]; omega
 have w2 : IntKind.u64.wrap (y * ea) = y * ea := by rw [IntKind.wrap_u64]; omega
 go_enter Tryz.func122, Tryz.ntmps122
 go_wp2_with fail
 obtain ⟨W, hW⟩ : ∃ W : World, W = ((w.alloc (.cells #[.int .i64 r, .int .i64 f, .int .i64 lo, .int .i64 tm, pv] 24)).alloc (.cells #[ua, .int .i64 ea] 27)).alloc (.cells #[ub, .int .i64 eb] 27) := ⟨_, rfl⟩
 rw [← hW]
 have zW : W.heap.size = w.heap.size + 3 := by rw [hW]; simp
 have bW : Below w.heap.size w W := by rw [hW]; ((with_reducible repeat' first | exact .refl _ _ | refine .alloc ?_ ?_ _ | refine .setCell ?_ ?_ _ | refine .drew ?_ | refine below_drewN ?_ _) <;> first | omega | simp <;> omega)
 obtain ⟨y0, y1, y2, y3, y4, v0, v1, x0, x1⟩ : W.cell? ⟨w.heap.size, 0, none⟩ = some (.int .i64 r) ∧ W.cell? ⟨w.heap.size, 1, none⟩ = some (.int .i64 f) ∧ W.cell? ⟨w.heap.size, 2, none⟩ = some (.int .i64 lo) ∧ W.cell? ⟨w.heap.size, 3, none⟩ = some (.int .i64 tm) ∧ W.cell? ⟨w.heap.size, 4, none⟩ = some pv ∧ W.cell? ⟨w.heap.size + 1, 0, none⟩ = some ua ∧ W.cell? ⟨w.heap.size + 1, 1, none⟩ = some (.int .i64 ea) ∧ W.cell? ⟨w.heap.size + 1 + 1, 0, none⟩ = some ub ∧ W.cell? ⟨w.heap.size + 1 + 1, 1, none⟩ = some (.int .i64 eb) := by
  rw [hW]; refine ⟨(World.cell?_alloc_lt _ _ _ (by simp; omega)).trans (by simp), (World.cell?_alloc_lt _ _ _ (by simp; omega)).trans (by simp), (World.cell?_alloc_lt _ _ _ (by simp; omega)).trans (by simp), (World.cell?_alloc_lt _ _ _ (by simp; omega)).trans (by simp), (World.cell?_alloc_lt _ _ _ (by simp; omega)).trans (by simp), (World.cell?_alloc_lt _ _ _ (by simp)).trans (by simp), (World.cell?_alloc_lt _ _ _ (by simp)).trans (by simp), (World.cell?_alloc_at _ _ _ _ (by simp)).trans (by simp), (World.cell?_alloc_at _ _ _ _ (by simp)).trans (by simp)⟩
 have z0 : w.heap.size < W.heap.size := by omega
 have z1 : w.heap.size + 1 < W.heap.size := by omega
 have z2 : w.heap.size + 1 + 1 < W.heap.size := by omega
 have Y0 := grow_cell y0 z0
 have Y1 := grow_cell y1 z0
 have Y2 := grow_cell y2 z0
 have Y3 := grow_cell y3 z0
 have Y4 := grow_cell y4 z0
 have V0 := grow_cell v0 z1
 have V1 := grow_cell v1 z1
 have X0 := grow_cell x0 z2
 have X1 := grow_cell x1 z2
 clear hW y0 y1 y2 y3 y4 v0 v1 x0 x1
 refine wp_region_quiet_grown (by first | assumption | kernel_rfl) (by kernel_rfl) ?_
 have hG : ∀ p : GrownBy, PrRow (Sort.grow (W.drewN p.n) p.os) pv ps ∧ IsRow (Sort.grow (W.drewN p.n) p.os) ua la ∧ IsRow (Sort.grow (W.drewN p.n) p.os) ub lb := fun p => HR.out _ (below_grow bW (by omega) _ _)
 have Ka := hide (fun (p : GrownBy) => Calls.grown_of ((Hca.out _ ea (hG p).1 (hG p).2.1).mono (by rintro e w' ⟨rfl, rfl⟩; exact ⟨rfl, alloc2_grow _ _ _⟩)))
 have Kb := hide (fun (p : GrownBy) => Calls.grown_of ((Hcb.out _ eb (hG p).1 (hG p).2.2).mono (by rintro e w' ⟨rfl, rfl⟩; exact ⟨rfl, alloc2_grow _ _ _⟩)))
 have Kc := hide (fun (p : GrownBy) => Calls.grown_of ((CompareU_any (x * eb) (y * ea) (Sort.grow (W.drewN p.n) p.os)).mono (by rintro e w' ⟨rfl, rfl⟩; exact ⟨rfl, 0, #[], by rw [World.drewN_zero]; rfl⟩)))
 clear hG HR Hca Hcb
 repeat (go_big_quiet_step (first | (go_at_call 166; with_reducible exact Kc.out _) | (go_at_call 167; with_reducible exact Ka.out _) | (go_at_call 167; with_reducible exact Kb.out _)))
 refine wpQuiet_nil ?_
 intro _ hw'
 obtain ⟨⟨nq, osq⟩, hw''⟩ := hw'
 subst hw''
 go_wp2_with fail
 go_ret
 exact ⟨ret_int Hres.out, below_grow bW (by omega) _ _⟩
end Go.Proofs.YtigjljmhpkeahaaGreat
/- Package plan: Cheaper, check. -/
namespace Go.Proofs.YtigjljmhpkeahaaGreat
open Go.RowKit

end Go.Proofs.YtigjljmhpkeahaaGreat
/- Package plan: check. -/
namespace Go.Proofs.YtigjljmhpkeahaaGreat
open Go.RowKit

set_option maxRecDepth 100000 in
set_option maxHeartbeats 1000000 in
theorem plCheck_any (r f lo tm : Int) (pv : Value) (ps : List Pr) (v : Value) (pl : List Int) (w : World) (hp : PrRow w pv ps) (hv : IsRow w v pl) :
  Calls Tryz.prog 72 #[.agg #[.int .i64 r, .int .i64 f, .int .i64 lo, .int .i64 tm, pv], v] w fun e w' => e = .returned (.int .i64 (ckE ⟨r, f, lo, tm, ps⟩ pl)) ∧ Below w.heap.size w w' := by
 have hR : ∀ W : World, Below w.heap.size w W → PrRow W pv ps ∧ IsRow W v pl := fun W hW => ⟨hp.below (Nat.le_refl _) hW, hv.below (Nat.le_refl _) hW⟩
 have HR := hide hR
 obtain ⟨pa, pc, rfl, q1, q2⟩ := hp.len
 clear hR hp hv
 cases hA : siB ⟨r, f, lo, tm, ps⟩ with
 | false =>
  have e1 : ckE ⟨r, f, lo, tm, ps⟩ pl = 1 := by unfold ckE; rw [if_neg (by simp [hA])]
  rw [e1]
  clear e1
  go_enter Tryz.func72, Tryz.ntmps72
  go_wp2_with fail
  refine (wdValid_any r f lo tm _ ps _ (HR.out _ (by ((with_reducible repeat' first | exact .refl _ _ | refine .alloc ?_ ?_ _ | refine .setCell ?_ ?_ _ | refine .drew ?_ | refine below_drewN ?_ _) <;> first | omega | simp <;> omega))).1).mono ?_
  rintro e w1 ⟨rfl, b1⟩
  obtain ⟨kb1_0, fb1_0, zb1_0, zab1_0, zbb1_0, zcb1_0, zdb1_0, zeb1_0⟩ := bk3 b1 (w.heap.size) (by first | omega | simp <;> omega)
  have z1 := b1.size
  simp at z1
  rw [hA]
  go_wp2_with fail
  go_ret
  exact ⟨rfl, (by ((with_reducible repeat' first | exact .refl _ _ | exact b1 | refine .alloc ?_ ?_ _ | refine .setCell ?_ ?_ _ | refine .drew ?_ | refine below_drewN ?_ _ | refine Below.trans ?_ (b1.mono ?_)) <;> first | omega | simp <;> omega))⟩
 | true =>
  cases hB : prdB tm pl with
  | false =>
   have e1 : ckE ⟨r, f, lo, tm, ps⟩ pl = 1 := by unfold ckE; rw [if_neg (by simp [hB])]
   rw [e1]
   clear e1
   go_enter Tryz.func72, Tryz.ntmps72
   go_wp2_with fail
   refine (wdValid_any r f lo tm _ ps _ (HR.out _ (by ((with_reducible repeat' first | exact .refl _ _ | refine .alloc ?_ ?_ _ | refine .setCell ?_ ?_ _ | refine .drew ?_ | refine below_drewN ?_ _) <;> first | omega | simp <;> omega))).1).mono ?_
   rintro e w1 ⟨rfl, b1⟩
   obtain ⟨kb1_0, fb1_0, zb1_0, zab1_0, zbb1_0, zcb1_0, zdb1_0, zeb1_0⟩ := bk3 b1 (w.heap.size) (by first | omega | simp <;> omega)
   have z1 := b1.size
   simp at z1
   rw [hA]
   go_wp2_with fail
   refine (isPeriods_any r f lo tm _ _ pl _ (HR.out _ (by ((with_reducible repeat' first | exact .refl _ _ | exact b1 | refine .alloc ?_ ?_ _ | refine .setCell ?_ ?_ _ | refine .drew ?_ | refine below_drewN ?_ _ | refine Below.trans ?_ (b1.mono ?_)) <;> first | omega | simp <;> omega))).2).mono ?_
   rintro e w2 ⟨rfl, b2⟩
   obtain ⟨kb2_0, fb2_0, zb2_0, zab2_0, zbb2_0, zcb2_0, zdb2_0, zeb2_0⟩ := bk3 b2 (w.heap.size) (by first | omega | simp <;> omega)
   rw [hB]
   go_wp2_with fail
   go_ret
   exact ⟨rfl, (by ((with_reducible repeat' first | exact .refl _ _ | exact b2 | exact b1 | refine .alloc ?_ ?_ _ | refine .setCell ?_ ?_ _ | refine .drew ?_ | refine below_drewN ?_ _ | refine Below.trans ?_ (b2.mono ?_) | refine Below.trans ?_ (b1.mono ?_)) <;> first | omega | simp <;> omega))⟩
  | true =>
   have e1 : ckE ⟨r, f, lo, tm, ps⟩ pl = if ps.length ≤ 10 then 0 else 2 := by unfold ckE; rw [if_pos ⟨hA, hB⟩]
   generalize ckE ⟨r, f, lo, tm, ps⟩ pl = R at *
   have He := hide e1
   clear e1
   go_enter Tryz.func72, Tryz.ntmps72
   go_wp2_with fail
   refine (wdValid_any r f lo tm _ ps _ (HR.out _ (by ((with_reducible repeat' first | exact .refl _ _ | refine .alloc ?_ ?_ _ | refine .setCell ?_ ?_ _ | refine .drew ?_ | refine below_drewN ?_ _) <;> first | omega | simp <;> omega))).1).mono ?_
   rintro e w1 ⟨rfl, b1⟩
   obtain ⟨kb1_0, fb1_0, zb1_0, zab1_0, zbb1_0, zcb1_0, zdb1_0, zeb1_0⟩ := bk3 b1 (w.heap.size) (by first | omega | simp <;> omega)
   have z1 := b1.size
   simp at z1
   rw [hA]
   go_wp2_with fail
   refine (isPeriods_any r f lo tm _ _ pl _ (HR.out _ (by ((with_reducible repeat' first | exact .refl _ _ | exact b1 | refine .alloc ?_ ?_ _ | refine .setCell ?_ ?_ _ | refine .drew ?_ | refine below_drewN ?_ _ | refine Below.trans ?_ (b1.mono ?_)) <;> first | omega | simp <;> omega))).2).mono ?_
   rintro e w2 ⟨rfl, b2⟩
   obtain ⟨kb2_0, fb2_0, zb2_0, zab2_0, zbb2_0, zcb2_0, zdb2_0, zeb2_0⟩ := bk3 b2 (w.heap.size) (by first | omega | simp <;> omega)
   rw [hB]
   by_cases h10 : ps.length ≤ 10
   ·have d1 : decide ((10 : Int) < (ps.length : Int)) = false := decide_eq_false (by omega)
    go_wp2_with fail
    go_ret
    exact ⟨ret_int (by rw [He.out, if_pos h10]), (by ((with_reducible repeat' first | exact .refl _ _ | exact b2 | exact b1 | refine .alloc ?_ ?_ _ | refine .setCell ?_ ?_ _ | refine .drew ?_ | refine below_drewN ?_ _ | refine Below.trans ?_ (b2.mono ?_) | refine Below.trans ?_ (b1.mono ?_)) <;> first | omega | simp <;> omega))⟩
   ·have d1 : decide ((10 : Int) < (ps.length : Int)) = true := decide_eq_true (by omega)
    go_wp2_with fail
    go_ret
    exact ⟨ret_int (by rw [He.out, if_neg h10]), (by ((with_reducible repeat' first | exact .refl _ _ | exact b2 | exact b1 | refine .alloc ?_ ?_ _ | refine .setCell ?_ ?_ _ | refine .drew ?_ | refine below_drewN ?_ _ | refine Below.trans ?_ (b2.mono ?_) | refine Below.trans ?_ (b1.mono ?_)) <;> first | omega | simp <;> omega))⟩
end Go.Proofs.YtigjljmhpkeahaaGreat
/- Package plan: the rules, one by one. -/
namespace Go.Proofs.YtigjljmhpkeahaaGreat
open Go.RowKit

set_option maxRecDepth 100000 in
set_option maxHeartbeats 1000000 in
theorem rule1_any (sb : Nat) (r f lo tm : Int) (pv : Value) (ps : List Pr) (ua : Value) (a : Of) (ub : Value) (b : Of) (w : World) (hs : w.cell? ⟨sb, 0, none⟩ = some (.int .i64 r) ∧ w.cell? ⟨sb, 1, none⟩ = some (.int .i64 f) ∧ w.cell? ⟨sb, 2, none⟩ = some (.int .i64 lo) ∧ w.cell? ⟨sb, 3, none⟩ = some (.int .i64 tm) ∧ w.cell? ⟨sb, 4, none⟩ = some pv) (hsb : sb < w.heap.size)
  (hp : PrRow w pv ps) (ha : IsRow w ua a.use) (hb : IsRow w ub b.use) (ca : CsOk ps a.use a.ev) (cb : CsOk ps b.use b.ev) :
  Calls Tryz.prog 121 #[.agg #[ua, .int .i64 a.ev, .int .i64 a.wd], .agg #[ub, .int .i64 b.ev, .int .i64 b.wd], .pointer (some ⟨sb, 0, none⟩)] w fun e w' => e = .returned (.int .i64 (cmpC ps a b)) ∧ Below w.heap.size w w' := by
 obtain ⟨s0, s1, s2, s3, s4⟩ := hs
 have hR : ∀ W : World, Below w.heap.size w W → PrRow W pv ps ∧ IsRow W ua a.use ∧ IsRow W ub b.use := fun W hW => ⟨hp.below (Nat.le_refl _) hW, ha.below (Nat.le_refl _) hW, hb.below (Nat.le_refl _) hW⟩
 have HR := hide hR
 have Ca := hide ca
 have Cb := hide cb
 have hE : cmpS ps a.use a.ev b.use b.ev = cmpC ps a b := rfl
 have HE := hide hE
 clear hR hp ha hb ca cb hE
 go_enter Tryz.func121, Tryz.ntmps121
 go_wp2_with fail
 refine (compare_any r f lo tm _ ps _ a.use a.ev _ b.use b.ev _ (HR.out _ (by ((with_reducible repeat' first | exact .refl _ _ | refine .alloc ?_ ?_ _ | refine .setCell ?_ ?_ _ | refine .drew ?_ | refine below_drewN ?_ _) <;> first | omega | simp <;> omega))).1 (HR.out _ (by ((with_reducible repeat' first | exact .refl _ _ | refine .alloc ?_ ?_ _ | refine .setCell ?_ ?_ _ | refine .drew ?_ | refine below_drewN ?_ _) <;> first | omega | simp <;> omega))).2.1 (HR.out _ (by ((with_reducible repeat' first | exact .refl _ _ | refine .alloc ?_ ?_ _ | refine .setCell ?_ ?_ _ | refine .drew ?_ | refine below_drewN ?_ _) <;> first | omega | simp <;> omega))).2.2 Ca.out Cb.out).mono ?_
 rintro e w1 ⟨rfl, b1⟩
 go_wp2_with fail
 go_ret
 exact ⟨ret_int HE.out, (by ((with_reducible repeat' first | exact .refl _ _ | exact b1 | refine .alloc ?_ ?_ _ | refine .setCell ?_ ?_ _ | refine .drew ?_ | refine below_drewN ?_ _ | refine Below.trans ?_ (b1.mono ?_)) <;> first | omega | simp <;> omega))⟩
set_option maxRecDepth 100000 in
set_option maxHeartbeats 1000000 in
theorem rule2_any (ua : Value) (a : Of) (ub : Value) (b : Of) (w : World) :
  Calls Tryz.prog 123 #[.agg #[ua, .int .i64 a.ev, .int .i64 a.wd], .agg #[ub, .int .i64 b.ev, .int .i64 b.wd]] w fun e w' => e = .returned (.int .i64 (cmpW a b)) ∧ Below w.heap.size w w' := by
 have hE : Lib.compareInt a.wd b.wd = cmpW a b := rfl
 have HE := hide hE
 clear hE
 go_enter Tryz.func123, Tryz.ntmps123
 go_wp2_with (go_at_call 124; (with_reducible refine (Compare_any _ _ _).mono ?_); rintro e w' ⟨rfl, rfl⟩)
 go_ret
 exact ⟨ret_int HE.out, (by ((with_reducible repeat' first | exact .refl _ _ | refine .alloc ?_ ?_ _ | refine .setCell ?_ ?_ _ | refine .drew ?_ | refine below_drewN ?_ _) <;> first | omega | simp <;> omega))⟩
set_option maxRecDepth 100000 in
set_option maxHeartbeats 1000000 in
theorem rule3_any (ua : Value) (a : Of) (ub : Value) (b : Of) (w : World) (ha : IsRow w ua a.use) (hb : IsRow w ub b.use) :
  Calls Tryz.prog 125 #[.agg #[ua, .int .i64 a.ev, .int .i64 a.wd], .agg #[ub, .int .i64 b.ev, .int .i64 b.wd]] w fun e w' => e = .returned (.int .i64 (c3 a b)) ∧ Below w.heap.size w w' := by
 obtain ⟨pa, pc, rfl, -, -, -⟩ := ha
 obtain ⟨qa, qc, rfl, -, -, -⟩ := hb
 have hE : Lib.compareInt a.use.length b.use.length = c3 a b := rfl
 have HE := hide hE
 clear hE
 go_enter Tryz.func125, Tryz.ntmps125
 go_wp2_with (go_at_call 124; (with_reducible refine (Compare_any _ _ _).mono ?_); rintro e w' ⟨rfl, rfl⟩)
 go_ret
 exact ⟨ret_int HE.out, (by ((with_reducible repeat' first | exact .refl _ _ | refine .alloc ?_ ?_ _ | refine .setCell ?_ ?_ _ | refine .drew ?_ | refine below_drewN ?_ _) <;> first | omega | simp <;> omega))⟩
set_option maxRecDepth 100000 in
set_option maxHeartbeats 1000000 in
theorem rule5_any (ua : Value) (a : Of) (ub : Value) (b : Of) (w : World) :
  Calls Tryz.prog 128 #[.agg #[ua, .int .i64 a.ev, .int .i64 a.wd], .agg #[ub, .int .i64 b.ev, .int .i64 b.wd]] w fun e w' => e = .returned (.int .i64 (c5 a b)) ∧ Below w.heap.size w w' := by
 have hE : Lib.compareInt b.ev a.ev = c5 a b := rfl
 have HE := hide hE
 clear hE
 go_enter Tryz.func128, Tryz.ntmps128
 go_wp2_with (go_at_call 124; (with_reducible refine (Compare_any _ _ _).mono ?_); rintro e w' ⟨rfl, rfl⟩)
 go_ret
 exact ⟨ret_int HE.out, (by ((with_reducible repeat' first | exact .refl _ _ | refine .alloc ?_ ?_ _ | refine .setCell ?_ ?_ _ | refine .drew ?_ | refine below_drewN ?_ _) <;> first | omega | simp <;> omega))⟩
end Go.Proofs.YtigjljmhpkeahaaGreat
