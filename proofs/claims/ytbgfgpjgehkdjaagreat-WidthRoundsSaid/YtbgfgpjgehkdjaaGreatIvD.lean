/- The reference's Cover: a list that rises, is apart, and has just the times of so great a depth. -/
import Derived.Test.YtbgfgpjgehkdjaaGreatIvO
namespace Go.Proofs.YtbgfgpjgehkdjaaGreat
open Go.RowKit
attribute [local go_sem ↓] run_max_mx run_min_mn run_eql_iv run_neq_iv

theorem infoIv : (Tryz.prog.info? 36).map (fun i => (i.zero, i.size, i.bytes)) = some (some (.agg #[.int .i64 0, .int .i64 0]), 2, 16) := by kernel_rfl
def coverOk (l : List Iv) (need : Int) : Bool := listB l && decide (1 ≤ need ∧ need ≤ 64)
def coverEr (l : List Iv) (need : Int) : Int := if coverOk l need = true then 0 else 1
def CovOut (l : List Iv) (need : Int) (c : List Iv) : Prop := if coverOk l need = true then CovSpec l need c else c = []
theorem CovOut.unique {l : List Iv} {need : Int} {c d : List Iv} (hc : CovOut l need c) (hd : CovOut l need d) : c = d := by
  unfold CovOut at hc hd
  by_cases h : coverOk l need = true
  · rw [if_pos h] at hc hd; exact hc.unique hd
  · rw [if_neg h] at hc hd; rw [hc, hd]
/-- What both Covers return. -/
def CovPost (B : Nat) (w : World) (l : List Iv) (need : Int) (e : Ending) (w' : World) : Prop :=
  ∃ v c, e = .returned (.tuple #[v, .int .i64 (coverEr l need)]) ∧ OwnIv w' w.heap.size v c ∧ CovOut l need c ∧ Below B w w'

end Go.Proofs.YtbgfgpjgehkdjaaGreat
