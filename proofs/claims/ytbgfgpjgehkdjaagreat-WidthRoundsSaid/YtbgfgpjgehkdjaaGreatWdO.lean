/- What an honest authority's reply says of the time of sending. -/
import Derived.Test.YtbgfgpjgehkdjaaGreatWdB
import Derived.IntWalk
import Derived.Deep.RegionHeld3
namespace Go.Proofs.YtbgfgpjgehkdjaaGreat
open Go.RowKit
attribute [local go_sem ↓] run_max_mx run_min_mn

def hdOut (p : Pr) (x : Int) : Int := p.ol + x % (p.oh - p.ol + 1)
def hdLeft (p : Pr) (x : Int) : Int := x % (2 * p.er + 1)
def hdRight (p : Pr) (l x : Int) : Int := x % (2 * p.er - l + 1)
def hdLo (p : Pr) (t x0 x1 : Int) : Int := mx 0 (mx 0 (t + hdOut p x0 - hdLeft p x1) - p.oh)
def hdHi (p : Pr) (t x0 x1 x2 : Int) : Int := t + hdOut p x0 + hdRight p (hdLeft p x1) x2 - p.ol
theorem hd_bd {r tm : Int} {p : Pr} (h : prB r tm p = true) (x0 x1 x2 : Int) : (p.ol ≤ hdOut p x0 ∧ hdOut p x0 ≤ p.oh) ∧ (0 ≤ hdLeft p x1 ∧ hdLeft p x1 ≤ 2 * p.er) ∧ (0 ≤ hdRight p (hdLeft p x1) x2 ∧ hdRight p (hdLeft p x1) x2 ≤ 2 * p.er - hdLeft p x1) := by
  have hp := (prB_iff _ _ _).1 h
  have a1 := Int.emod_nonneg x0 (show p.oh - p.ol + 1 ≠ 0 by omega)
  have a2 := Int.emod_lt_of_pos x0 (show 0 < p.oh - p.ol + 1 by omega)
  have a3 := Int.emod_nonneg x1 (show 2 * p.er + 1 ≠ 0 by omega)
  have a4 := Int.emod_lt_of_pos x1 (show 0 < 2 * p.er + 1 by omega)
  have e : hdLeft p x1 = x1 % (2 * p.er + 1) := rfl
  have a5 := Int.emod_nonneg x2 (show 2 * p.er - hdLeft p x1 + 1 ≠ 0 by omega)
  have a6 := Int.emod_lt_of_pos x2 (show 0 < 2 * p.er - hdLeft p x1 + 1 by omega)
  unfold hdOut hdRight
  omega
/-- What is heard has the time of sending, is valid, and is at most as wide as the peer. -/
theorem hd_law {r tm : Int} {p : Pr} (h : prB r tm p = true) (t x0 x1 x2 : Int) (ht : 0 ≤ t ∧ t ≤ 2999999991000000) :
    (0 ≤ hdLo p t x0 x1 ∧ hdLo p t x0 x1 ≤ t ∧ t ≤ hdHi p t x0 x1 x2 ∧ hdHi p t x0 x1 x2 ≤ 3000000000000000) ∧ hdHi p t x0 x1 x2 - hdLo p t x0 x1 ≤ pWd p := by
  have hp := (prB_iff _ _ _).1 h
  obtain ⟨h1, h2, h3⟩ := hd_bd h x0 x1 x2
  unfold hdLo hdHi pWd
  have m1 := mx_spec 0 (t + hdOut p x0 - hdLeft p x1)
  have m2 := mx_spec 0 (mx 0 (t + hdOut p x0 - hdLeft p x1) - p.oh)
  omega
set_option maxRecDepth 100000 in
set_option maxHeartbeats 1000000 in
theorem heard_any (p : Pr) (r tm : Int) (h : prB r tm p = true) (t x0 x1 x2 : Int) (ht : 0 ≤ t ∧ t ≤ 2999999991000000) (hx0 : 0 ≤ x0 ∧ x0 ≤ 4294967295) (hx1 : 0 ≤ x1 ∧ x1 ≤ 4294967295) (hx2 : 0 ≤ x2 ∧ x2 ≤ 4294967295) (w : World) :
    Calls Tryz.prog 8 #[.agg #[.int .i64 p.au, .int .i64 p.er, .int .i64 p.co, .int .i64 p.at_, .int .i64 p.ol, .int .i64 p.oh, .int .i64 p.bl, .int .i64 p.bh], .int .i64 t, .agg #[.int .u32 x0, .int .u32 x1, .int .u32 x2]] w fun e w' =>
      e = .returned (.tuple #[.agg #[.int .i64 (hdLo p t x0 x1), .int .i64 (hdHi p t x0 x1 x2)], .bool true]) ∧ Below w.heap.size w w' := by
  have hp := (prB_iff _ _ _).1 h
  obtain ⟨h1, h2, h3⟩ := hd_bd h x0 x1 x2
  obtain ⟨⟨⟨k1, k2, k3⟩, k4, k5, k6⟩, -, ⟨k7, k8⟩, -, -⟩ := hp
  obtain ⟨d1, hd1⟩ : ∃ d : Int, d = p.oh - p.ol + 1 := ⟨_, rfl⟩
  obtain ⟨d2, hd2⟩ : ∃ d : Int, d = 2 * p.er + 1 := ⟨_, rfl⟩
  obtain ⟨d3, hd3⟩ : ∃ d : Int, d = 2 * p.er - hdLeft p x1 + 1 := ⟨_, rfl⟩
  obtain ⟨o, ho⟩ : ∃ o : Int, o = hdOut p x0 := ⟨_, rfl⟩
  obtain ⟨l, hl⟩ : ∃ l : Int, l = hdLeft p x1 := ⟨_, rfl⟩
  obtain ⟨g, hg⟩ : ∃ g : Int, g = hdRight p (hdLeft p x1) x2 := ⟨_, rfl⟩
  have e1 : hdLo p t x0 x1 = mx 0 (mx 0 (t + o - l) - p.oh) := by unfold hdLo; rw [ho, hl]
  have e2 : hdHi p t x0 x1 x2 = t + o + g - p.ol := by unfold hdHi; rw [ho, hg]
  rw [e1, e2]
  have m1 : x0 % d1 = o - p.ol := by rw [ho, hd1]; unfold hdOut; omega
  have m2 : x1 % d2 = l := by rw [hl, hd2]; rfl
  have m3 : x2 % d3 = g := by rw [hg, hd3]; rfl
  rw [← ho] at h1
  rw [← hl] at h2 h3 hd3 hg
  rw [← hg] at h3
  have b1 : 1 ≤ d1 ∧ d1 ≤ 1000001 := by omega
  have b2 : 1 ≤ d2 ∧ d2 ≤ 2000001 := by omega
  have b3 : 1 ≤ d3 ∧ d3 ≤ 2000001 := by omega
  have n1 : x0.tmod d1 = o - p.ol := by rw [Int.tmod_eq_emod_of_nonneg hx0.1, m1]
  have n2 : x1.tmod d2 = l := by rw [Int.tmod_eq_emod_of_nonneg hx1.1, m2]
  have n3 : x2.tmod d3 = g := by rw [Int.tmod_eq_emod_of_nonneg hx2.1, m3]
  have f1 : IntKind.i64.wrap (p.oh - p.ol) = d1 - 1 := by rw [IntWalk.i64_in _ (by omega)]; omega
  have f2 : IntKind.i64.wrap (d1 - 1 + 1) = d1 := by rw [IntWalk.i64_in _ (by omega)]; omega
  have f2' : d1 - 1 + 1 = d1 := by omega
  have f3 : IntKind.i64.wrap (p.ol + (o - p.ol)) = o := by rw [IntWalk.i64_in _ (by omega)]; omega
  have f3' : p.ol + (o - p.ol) = o := by omega
  have f4 : 2 * p.er + 1 = d2 := hd2.symm
  have f5 : 2 * p.er - l + 1 = d3 := hd3.symm
  have sv : validB (mx 0 (t + o - l)) (t + o + g) = true := by
    have := mx_spec 0 (t + o - l)
    rw [validB_iff]; omega
  have lk : lkB p.ol p.oh p.bl p.bh = true := by rw [lkB_iff]; omega
  have sE : snEr p.ol p.oh p.bl p.bh (mx 0 (t + o - l)) (t + o + g) = 0 := by unfold snEr snOk; rw [lk, sv, if_pos (by rfl), if_neg (by omega)]
  have sL : snLo p.ol p.oh p.bl p.bh (mx 0 (t + o - l)) (t + o + g) = mx 0 (mx 0 (t + o - l) - p.oh) := by unfold snLo; rw [if_pos sE]
  have sH : snHi p.ol p.oh p.bl p.bh (mx 0 (t + o - l)) (t + o + g) = t + o + g - p.ol := by unfold snHi; rw [if_pos sE]
  have hS := Sent_any p.at_ p.ol p.oh p.bl p.bh (mx 0 (t + o - l)) (t + o + g)
  rw [sE, sL, sH] at hS
  have HS := hide hS
  clear hd1 hd2 hd3 ho hl hg e1 e2 sv lk sE sL sH hS h
  go_enter Tryz.func8, Tryz.ntmps8
  go_wp2_with fail
  go_quiet (fail)
  go_wp2_with fail
  refine (HS.out _).mono ?_
  rintro e w1 ⟨rfl, b1⟩
  have z1 := b1.size
  simp at z1
  obtain ⟨kb1_0, fb1_0, zb1_0, zab1_0, zbb1_0, zcb1_0, zdb1_0, zeb1_0⟩ := bk3 b1 (w.heap.size + 1 + 1) (by first | omega | (simp; done) | (simp; omega))
  go_wp2_with fail
  refine bodyPost_ret (v := .tuple #[.agg #[.int .i64 (mx 0 (mx 0 (t + o - l) - p.oh)), .int .i64 (t + o + g - p.ol)], .bool true]) (by simp [results, Tryz.results8, go_sem, *]) rfl ⟨rfl, ?_⟩
  ((repeat' (first | with_reducible exact Below.refl _ _ | with_reducible exact b1 | with_reducible refine Below.alloc ?_ ?_ _ | with_reducible refine Below.setCell ?_ ?_ _ | with_reducible refine Below.drew ?_ | with_reducible refine below_drewN ?_ _ | with_reducible refine Below.trans ?_ (b1.mono ?_))) <;> (first | omega | (simp; done) | (simp; omega)))

end Go.Proofs.YtbgfgpjgehkdjaaGreat
