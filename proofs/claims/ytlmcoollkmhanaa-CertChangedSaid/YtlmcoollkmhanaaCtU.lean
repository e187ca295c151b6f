
/- The reference of cert: Make, Check. -/
import Derived.Test.YtlmcoollkmhanaaCtT
import Derived.Test.YtlmcoollkmhanaaCtN
namespace Go.Proofs.Ytlmcoollkmhanaa
open Go.RowKit

theorem ckB_smB {s : Si} {x : Ct} (h1 : ckE s x.use x.ev = 0) : ckB s x = (decide (mkE s x.use x.ev x.bd = 0) && smB (mkX s x.use x.ev x.bd) x) := by
 unfold ckB
 rw [decide_eq_true h1, Bool.true_and]
 by_cases hE : mkE s x.use x.ev x.bd = 0
 ·have hX : mkX s x.use x.ev x.bd = ⟨x.use, x.ev, x.bd, wdt s x.use x.ev, csL s x.use x.ev⟩ := by unfold mkX; rw [if_pos hE]
  rw [hX]
  unfold smB
  simp
 ·rw [decide_eq_false hE]; rfl
end Go.Proofs.Ytlmcoollkmhanaa
