
/- The reference of cert: cases. -/
import Derived.Test.YtlmcoollkmhanaaGreatCtS
import Derived.Test.YtlmcoollkmhanaaGreatCtO
import Derived.Test.YtlmcoollkmhanaaGreatCtG
namespace Go.Proofs.YtlmcoollkmhanaaGreat
open Go.RowKit

theorem wou_places (n : Nat) (wo : List Int) : wouL (toI (List.range n)) wo = plFrom wo n 0 := by
 unfold wouL plFrom toI
 rw [Nat.sub_zero, List.range_eq_range']
theorem places_all (n : Nat) : toI (List.range n) = plFrom [] n 0 := by
 unfold plFrom toI
 rw [Nat.sub_zero, List.range_eq_range', List.filter_eq_self.2 (fun x _ => by simp)]
theorem OwnLr.at_ {w : World} {base : Nat} {v : Value} {l : List (List Int)} (h : OwnLr w base v l) {i : Nat} (hi : i < l.length) : ∃ b off cap u, v = .slice (some ⟨b, off, none⟩) l.length cap ∧ b < w.heap.size ∧ w.cell? ⟨b, off + i, none⟩ = some u ∧ NewI w base u (lsAt l i) := by
 obtain ⟨xs, rfl, h2, h3⟩ := h
 have hi2 : i < xs.length := by simpa using hi
 obtain ⟨b, off, cap, rfl, -, -, h4, h5⟩ := (Owns.row encV_length rv0 (by omega) h2).at0 (by omega)
 have e : xs.getD i rv0 = xs[i] := by simp [List.getD_eq_getElem?_getD, List.getElem?_eq_getElem hi2]
 have h6 := h5 i hi2 0 _ rfl
 rw [e, Nat.mul_one, Nat.add_zero] at h6
 refine ⟨b, off, cap, xs[i].1, by rw [List.length_map], h4, h6, ?_⟩
 rw [lsAt_lt _ i (by simpa using hi2), List.getElem_map]
 exact h3 _ (List.getElem_mem hi2)
theorem choice_at {s : Si} {use li lg : List Int} {f lo : Nat} (hf : s.f = f) (hlo : s.lo = lo) (h1 : li ∈ chR (plFrom [] use.length 0) f) (h2 : lg ∈ chR (plFrom li use.length 0) lo) : Choice s use li lg := by
 have a := (mem_choice [] use.length f li).1 h1
 have b := (mem_choice li use.length lo lg).1 h2
 exact ⟨by rw [hf]; exact a.1, by rw [hlo]; exact b.1, (cmB_iff _ _).2 fun x hx hy => b.2 x hy hx⟩
theorem lsAt_mem (l : List (List Int)) (i : Nat) (h : i < l.length) : lsAt l i ∈ l := by rw [lsAt_lt l i h]; exact List.getElem_mem h
end Go.Proofs.YtlmcoollkmhanaaGreat
