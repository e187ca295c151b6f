/- Package spread: Pick at whatever arguments. -/
import Derived.Test.YtcpfifbchijleaaSpG
namespace Go.Proofs.Ytcpfifbchijleaa
open Go.RowKit
def PickPost (w : World) (l : List Int) (f lost : Int) (e : Ending) (w' : World) : Prop :=
  ∃ v1 v2, e = .returned (.tuple #[v1, v2, .int .i64 (spEr l f lost)]) ∧ OwnIs w' w.heap.size v1 (pickL l f lost) ∧ OwnIs w' w.heap.size v2 (goneL l f lost) ∧ Below w.heap.size w w'
theorem PickPost.no {w w' : World} {l : List Int} {f lost x : Int} (h : spOk l f lost = false) (hx : spEr l f lost = x) (hb : Below w.heap.size w w') : PickPost w l f lost (.returned (.tuple #[.slice none 0 0, .slice none 0 0, .int .i64 x])) w' :=
  ⟨_, _, by rw [hx], by unfold pickL; rw [if_neg (by simp [h])]; exact OwnIs.nil _ _, by unfold goneL; rw [if_neg (by simp [h])]; exact OwnIs.nil _ _, hb⟩
set_option maxRecDepth 100000 in
set_option maxHeartbeats 400000 in
theorem Pick_any (v : Value) (l : List Int) (f lost : Int) (w : World) (hv : IsRow w v l) :
    Calls Try.prog 13 #[v, .int .i64 f, .int .i64 lost] w (PickPost w l f lost) := by
  rcases sp_ways l f lost with ⟨q1, q2⟩ | ⟨q1, q2, q3⟩ | ⟨q1, q2, q3, q4⟩
  · have hf := ((spOk_iff l f lost).1 q1).2.1
    obtain ⟨n, rfl⟩ : ∃ n : Nat, f = n := ⟨f.toNat, by omega⟩
    exact (Pick_ok v l n lost w hv q1).mono fun e w' ⟨v1, v2, he, h1, h2, h3⟩ => ⟨v1, v2, by rw [q2]; exact he, h1, h2, h3⟩
  · have Q2 := hide q2
    have Q3 := hide q3
    clear q2 q3
    go_enter Try.func13, Try.ntmps13
    go_wp2_with fail
    refine (newGame_bad v l f lost _ hv q1).mono ?_
    rintro e w1 ⟨rfl, b1⟩
    go_wp2_with fail
    go_ret3
    exact PickPost.no Q2.out Q3.out b1
  · have Q2 := hide q2
    have Q3 := hide q3
    have Q4 := hide q4
    clear q2 q3 q4
    go_enter Try.func13, Try.ntmps13
    go_wp2_with fail
    refine (newGame_few v l f lost _ hv q1 (by have := Q2.out; omega)).mono ?_
    rintro e w1 ⟨rfl, b1⟩
    go_wp2_with fail
    go_ret3
    exact PickPost.no Q3.out Q4.out b1
end Go.Proofs.Ytcpfifbchijleaa
