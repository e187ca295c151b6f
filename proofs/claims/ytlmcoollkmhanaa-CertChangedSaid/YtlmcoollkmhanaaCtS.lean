
/- The reference of cert: Choose. -/
import Derived.Test.YtlmcoollkmhanaaCtM
import Derived.Test.YtlmcoollkmhanaaApq
import Derived.Deep.DeepCutAuto
namespace Go.Proofs.Ytlmcoollkmhanaa
open Go.RowKit

theorem run_append_src {P : Program} (w : World) (base : Nat) (t ty e : TypeId) (i : TypeInfo) (z : Value) (size bytes : Nat) (ht : P.underlying t = some (.slice e)) (hi : P.info? e = some i) (hz : i.zero = some z)
  (hsize : i.size = size) (hby : i.bytes = bytes) (hzs : z.cells.size = size) (hsz : 0 < size)
  (v : Value) (n : Nat) (xs : List Value) (hown : w.ownsRow base e size v n xs) (vx : Value) (m : Nat) (news : List Value) (hr : SrcRow w vx m size news) (h1 : ∀ u ∈ news, u.oneCell' = true)
  (h63 : n + m ≤ maxLen) (hbytes : (n + m) * bytes ≤ 140737488355328) (hbase : base ≤ w.heap.size) :
  ∃ v' w', (Builtin.append_ #[t, t] ty #[v, vx]).run P w = .ok v' w' ∧ w'.ownsRow base e size v' (n + m) (xs ++ news) ∧ w.grownBy w' v.ownBlock ∧ (v'.ownBlock = v.ownBlock ∨ v'.ownBlock = some w.heap.size) := by
 obtain ⟨A, c, rfl, hl, hA, hc⟩ := hr
 rcases A with _ | ad
 ·obtain rfl := hA rfl
  have hn : news = [] := List.eq_nil_of_length_eq_zero (by simpa using hl)
  subst hn
  exact ⟨v, w, run_append_src0 w base t ty e i size ht hi v n xs hown c, by simpa using hown, World.grownBy.refl w _, .inl rfl⟩
 ·obtain ⟨v', w', hrun, h2, h3, _, h5⟩ := run_append_own_at (P := P) w base t ty e i z size bytes ht hi hz hsize hby hzs hsz v n xs hown ad m c news hl (hc ad rfl) h1 h63 hbytes hbase
  exact ⟨v', w', hrun, h2, h3, h5⟩
theorem step_append_src {P : Program} {ops : Array Oper} {o : Oper} {a : Act} {w : World} {K : Act → World → Prop} {Q : Exit → Act → World → Prop} {E : Prop}
  (hg : o.guard = none) (s x : Operand) (t : TypeId) (hop : o.op = Op.call { callee := Callee.builtin Builtin.append, args := #[s, x], argTypes := #[t, t] })
  (base : Nat) (e : TypeId) (i : TypeInfo) (z : Value) (size bytes : Nat) (h1 : P.underlying t = some (.slice e)) (h2 : P.info? e = some i) (h3 : i.zero = some z) (h4 : i.size = size) (h5 : i.bytes = bytes) (h6 : z.cells.size = size) (h7 : 0 < size)
  (v : Value) (n : Nat) (olds : List Value) (hs : a.eval s = v) (hown : w.ownsRow base e size v n olds)
  (vx : Value) (m : Nat) (news : List Value) (hx : a.eval x = vx) (hr : SrcRow w vx m size news) (h1c : ∀ u ∈ news, u.oneCell' = true)
  (b1 : n + m ≤ maxLen) (b2 : (n + m) * bytes ≤ 140737488355328) (b3 : base ≤ w.heap.size)
  (hK : ∀ v' w', w'.ownsRow base e size v' (n + m) (olds ++ news) → w.grownBy w' v.ownBlock → (v'.ownBlock = v.ownBlock ∨ v'.ownBlock = some w.heap.size) → K (a.put o.dst v') w') :
  if Region.wanted o (yielded ops a.tmps) = true then Oper.wp P o a w K Q else E := by
 have hw : Region.wanted o (yielded ops a.tmps) = true := by simp [Region.wanted, hg]
 rw [if_pos hw]
 obtain ⟨v', w', hrun, r1, r2, r3⟩ := run_append_src (P := P) w base t o.type e i z size bytes h1 h2 h3 h4 h5 h6 h7 v n olds hown vx m news hr h1c b1 b2 b3
 unfold Oper.wp
 simp [execOp, hop, resolve, invoke, builtin, hs, hx, hrun, Result.andThen]
 exact hK v' w' r1 r2 r3
end Go.Proofs.Ytlmcoollkmhanaa
