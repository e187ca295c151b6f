
/- append of some zeros ('append(l, make([]int, n)...)') to a row of integers of the call's own. -/
import Derived.Test.YtlmcoollkmhanaaGreatGa
import Derived.Lib.AppendZeros
import Derived.Maps.AppendAt
import Derived.RangeFuncRecord
namespace Go.Proofs.YtlmcoollkmhanaaGreat
open Go.RowKit

theorem zeroCells_one (z : Value) (n : Nat) (hz : z.cells = #[z]) : Builtin.zeroCells z.cells n = (List.replicate n z).toArray := by
 rw [hz]
 unfold Builtin.zeroCells
 apply Array.ext'
 simp only [Array.toList_map, Array.toList_range, List.size_toArray, List.length_cons, List.length_nil, Nat.zero_add, Nat.mul_one, Nat.mod_one]
 rw [List.eq_replicate_iff]
 refine ⟨by simp, fun b hb => ?_⟩
 simp at hb
 exact hb.2.symm
theorem run_append_zeros {P : Program} (w : World) (base : Nat) (t tn ty e : TypeId) (i : TypeInfo) (z : Value) (bytes : Nat) (k kn : IntKind) (ht : P.underlying t = some (.slice e)) (htn : P.underlying tn = some (.int kn)) (hi : P.info? e = some i) (hz : i.zero = some z)
  (hsize : i.size = 1) (hby : i.bytes = bytes) (hzc : z.cells = #[z]) (h1 : z.oneCell' = true)
  (v : Value) (n : Nat) (xs : List Value) (hown : w.ownsRow base e 1 v n xs) (m : Nat) (h63 : n + m ≤ maxLen) (hbytes : (n + m) * bytes ≤ 140737488355328) (hbase : base ≤ w.heap.size) :
  ∃ v' w', (Builtin.append_ #[t, tn] ty #[v, .int k m]).run P w = .ok v' w' ∧ w'.ownsRow base e 1 v' (n + m) (xs ++ List.replicate m z) ∧ w.grownBy w' v.ownBlock := by
 subst hby
 have hsmall : n + m ≤ 9223372036854775807 := by simp only [maxLen] at h63; omega
 have hw : IntKind.i64.wrap (m : Int) = m := by rw [IntKind.wrap_i64]; omega
 have hneg : ¬ ((m : Int) < 0) := by omega
 have hmb : m * i.bytes ≤ 140737488355328 := Nat.le_trans (Nat.mul_le_mul_right _ (by omega)) hbytes
 have h48i : ¬ (281474976710656 < (m : Int) * (i.bytes : Int)) := by
  rw [← Int.natCast_mul]
  omega
 rcases Nat.eq_zero_or_pos m with h0 | h0
 ·subst h0
  have w0 : IntKind.i64.wrap 0 = 0 := rfl
  refine ⟨v, w, ?_, by simpa using hown, World.grownBy.refl w _⟩
  rcases hown.2 with ⟨rfl, rfl⟩ | ⟨g, cap, cur, rfl, hbg, hg, hnc, hcm, hcs, htake⟩
  ·simp [Builtin.append_, run_underlying ht, run_underlying htn, sizeOf, typeInfo, zeroValue, hi, hz, asInt, asIntOf, w0]
  ·simp [Builtin.append_, run_underlying ht, run_underlying htn, sizeOf, typeInfo, zeroValue, hi, hz, asInt, asIntOf, w0, hnc, storeCells]
 ·have hm0 : m ≠ 0 := by omega
  have hlen : (xs ++ List.replicate m z).length = (n + m) * 1 := by rw [List.length_append, hown.1, List.length_replicate]; omega
  have grown : ∀ (old : Nat), old < n + m → ∀ (row : Option Nat),
    (w.drew.alloc (.cells (xs.toArray ++ (List.replicate m z).toArray ++ Builtin.zeroCells z.cells (grownCap w (n + m) old e - (n + m))) e)).ownsRow base e 1
     (.slice (some ⟨w.heap.size, 0, none⟩) (n + m) (grownCap w (n + m) old e)) (n + m) (xs ++ List.replicate m z) ∧
    w.grownBy (w.drew.alloc (.cells (xs.toArray ++ (List.replicate m z).toArray ++ Builtin.zeroCells z.cells (grownCap w (n + m) old e - (n + m))) e)) row := by
   intro old ho row
   have hge := grownCap_ge w (n + m) old e
   have hcm : grownCap w (n + m) old e ≤ maxLen := grownCap_le_maxLen w (n + m) old e h63
   refine ⟨⟨hlen, .inr ⟨w.heap.size, _, _, rfl, hbase, World.alloc_heap_new w.drew _, hge, hcm, ?_, ?_⟩⟩, ⟨rfl, rfl, rfl, by simp, fun k hk _ => Below.heap_alloc w.drew _ k hk⟩⟩
   ·have hx := hown.1
    simp only [zeroCells_one z _ hzc, Array.size_append, List.size_toArray, List.length_replicate, hx]
    omega
   ·simp only [Array.toList_append, List.append_assoc]
    rw [← List.append_assoc, ← hlen]
    exact List.take_left
  have hns : ¬ (m * 1 = 0) := by omega
  rcases hown.2 with ⟨rfl, rfl⟩ | ⟨g, cap, cur, rfl, hbg, hg, hnc, hcm, hcs, htake⟩
  ·have hx : xs = [] := List.eq_nil_of_length_eq_zero (by simpa using hown.1)
   subst hx
   have hr := Lib.run_append_nil_zeros (P := P) w t tn ty e i z k kn ht htn hi hz m h0 (by omega) (by omega) (by omega)
   have hgr := grown 0 (by omega) (Value.ownBlock (.slice none 0 0))
   rw [zeroCells_one z m hzc] at hr
   simp only [Nat.zero_add, List.nil_append, Array.empty_append] at hgr ⊢
   exact ⟨_, _, hr, hgr.1, hgr.2⟩
  ·by_cases hroom : n + m ≤ cap
   ·have hfit : n * 1 + (List.replicate m z).length ≤ cur.size := by rw [hcs, List.length_replicate]; omega
    have hst := run_storeCells_at P g (n * 1) e (List.replicate m z) 0 cur w hg (by simpa using hfit) (fun u hu => by rw [List.eq_of_mem_replicate hu]; exact h1)
    simp only [Nat.add_zero] at hst
    have hr : (Builtin.append_ #[t, tn] ty #[.slice (some ⟨g, 0, none⟩) n cap, .int k m]).run P w =
      .ok (.slice (some ⟨g, 0, none⟩) (n + m) cap) (w.setRow g (cur.toList.take (n * 1) ++ List.replicate m z ++ cur.toList.drop (n * 1 + (List.replicate m z).length)).toArray) := by
     simp [Builtin.append_, run_underlying ht, run_underlying htn, sizeOf, typeInfo, zeroValue, hi, hz, asInt, asIntOf, hw, hneg, hm0, hsize, h48i, hroom, Addr.add_lit, zeroCells_one z m hzc]
     have hst2 : (storeCells ⟨g, n, none⟩ (List.replicate m z)).run P w = .ok () (w.setRow g (cur.toList.take n ++ (List.replicate m z ++ cur.toList.drop (n + m))).toArray) := by simpa using hst
     rw [hst2]
     rfl
    refine ⟨_, _, hr, ⟨hlen, .inr ⟨g, cap, _, rfl, hbg, setRow_heap w g cur _ e _ hg, hroom, hcm, ?_, ?_⟩⟩, ⟨rfl, rfl, rfl, by simp, fun k _ hk => setRow_other w g k _ (fun e => hk (by simp [Value.ownBlock, e]))⟩⟩
    ·have hcs2 : cur.size = cap := by omega
     simp only [List.size_toArray, List.length_append, List.length_take, List.length_drop, Array.length_toList, List.length_replicate]
     omega
    ·rw [htake, ← hlen]
     exact List.take_left
   ·have holds : ∀ j u, xs[j]? = some u → w.cell? ((⟨g, 0, none⟩ : Addr).add j) = some u := World.ownsRow.cells hown (g := g) rfl
    have hfo := run_firstCells_some (P := P) w.drew 1 n ⟨g, 0, none⟩ n cap xs hown.1 (by simpa using holds)
    have hn' : ¬ (n + m ≤ cap) := hroom
    have h63' : ¬ (9223372036854775807 < ((n : Int) + (m : Int))) := by omega
    have hfit := growslice_fits (show cap < n + m by omega) hbytes
    have h48' : ¬ (281474976710656 < Builtin.nextslicecap (n + m) cap * i.bytes) := by omega
    have hr : (Builtin.append_ #[t, tn] ty #[.slice (some ⟨g, 0, none⟩) n cap, .int k m]).run P w =
      .ok (.slice (some ⟨w.heap.size, 0, none⟩) (n + m) (grownCap w (n + m) cap e))
       (w.drew.alloc (.cells (xs.toArray ++ (List.replicate m z).toArray ++ Builtin.zeroCells z.cells (grownCap w (n + m) cap e - (n + m))) e)) := by
     simp [Builtin.append_, run_underlying ht, run_underlying htn, sizeOf, typeInfo, zeroValue, hi, hz, asInt, asIntOf, hw, hneg, hm0, hsize, h48i, hn', h63', h48', Question.forced, hfo, newRow, grownCap, zeroCells_one z m hzc]
    have hgr := grown cap (by omega) (Value.ownBlock (.slice (some ⟨g, 0, none⟩) n cap))
    exact ⟨_, _, hr, hgr.1, hgr.2⟩
end Go.Proofs.YtlmcoollkmhanaaGreat
